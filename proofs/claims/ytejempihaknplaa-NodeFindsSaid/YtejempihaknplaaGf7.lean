-- Written by this session's program genprint.py (the kit's print.py with contracts of this seat's own among the callees). Not trusted: Lean checks it.
import Derived.Test.YtejempihaknplaaGX
import Derived.Test.YtejempihaknplaaGA
import Derived.Test.YtejempihaknplaaGEq
import Derived.Test.YtejempihaknplaaGK
import Derived.Test.YtejempihaknplaaGL
import Derived.Test.YtejempihaknplaaGf26
import Derived.Test.YtejempihaknplaaHDelete
import Derived.Test.YtejempihaknplaaHPut
namespace Go.Proofs.Ytejempihaknplaa.G
open Go.RowKit Go.Proofs.YtejempihaknplaaW.PrintWords Go.Proofs.YtejempihaknplaaW.PrintLast Go.Proofs.YtejempihaknplaaW.PrintMore
attribute [local go_sem] max2_int min2_int max_two min_two max_three min_three max_four min_four   -- for this text's walks alone
set_option linter.unusedVariables false
set_option linter.unusedSimpArgs false

attribute [local go_sem high] eqA39
/-! ### bazaarlaw06_NodeFinds: function 7 -/
def bazaarlaw06_NodeFinds.j0 : Nat → Bool → Int → Bool → Int → Bool → Int → Bool → List (S39) → List ByteArray → List Int → ByteArray → ByteArray → List (S39) → List ByteArray → List Int → List (S39) → List ByteArray → List Int → List (S39) → List ByteArray → List Int → Option (Bool)
  | 0, _, _, _, _, _, _, _, _, _, _, _, _, _, _, _, _, _, _, _, _, _ => none
  | k + 1, x5, x8, x10, x11, x13, x14, x74, x310000, x310001, x310002, x311000, x311001, x334000, x334001, x334002, x347000, x347001, x347002, x359000, x359001, x359002 => if x74 = true then (some false) else (if x13 = true then (if x5 = true then (if 0 ≤ x8 then (if x8 < (x334000.length : Int) then (if ((((rd_T39 x334000 x8).f0).toList) == x311000.toList && ((((rd_T39 x334000 x8).f1).toList) == x311001.toList)) = true then (if x10 = true then (if x11 = 0 then (if x14 = 0 then ((bazaarref06_Same.f k x347000 x347001 x347002 x359000 x359001 x359002).bind fun t361 => (if t361 = true then (some ((x334000.length : Int) == (wrap64 ((x310000.length : Int) + 0)))) else (some false))) else (some false)) else (some false)) else (some false)) else (some false)) else (none)) else (none)) else (some false)) else (if x5 = true then (if 0 ≤ x8 then (if x8 < (x334000.length : Int) then (if ((((rd_T39 x334000 x8).f0).toList) == x311000.toList && ((((rd_T39 x334000 x8).f1).toList) == x311001.toList)) = true then (if x10 = true then (if x11 = 0 then (if x14 = 0 then ((bazaarref06_Same.f k x347000 x347001 x347002 x359000 x359001 x359002).bind fun t363 => (if t363 = true then (some ((x334000.length : Int) == (wrap64 ((x310000.length : Int) + 1)))) else (some false))) else (some false)) else (some false)) else (some false)) else (some false)) else (none)) else (none)) else (some false)))
def bazaarlaw06_NodeFinds.f (k : Nat) (l0_0 : List (S39)) (l0_1 : List ByteArray) (l0_2 : List Int) (a1_0 : ByteArray) (a1_1 : ByteArray) : Option (Bool) := (bazaarlaw06_shown.f).bind fun t311 => ((bazaarlaw06_cut.f k l0_0 l0_1 l0_2).bind fun bt312 => ((bazaarlaw06_text.f a1_0).bind fun t321 => ((bazaarlaw06_text.f a1_1).bind fun t322 => ((node_Put.f bt312.1 bt312.2.1 bt312.2.2 t321 t322).bind fun bt323 => (if bt323.2.2.2 = 0 then ((node_Place.f k bt323.1 bt323.2.1 bt323.2.2.1 t321).bind fun t334 => ((node_Delete.f bt323.1 bt323.2.1 bt323.2.2.1 t321).bind fun bt335 => ((node_Delete.f bt312.1 bt312.2.1 bt312.2.2 t321).bind fun bt347 => (if t334 < 0 then (bazaarlaw06_NodeFinds.j0 k t311 t334 bt335.2.2.2.1 bt335.2.2.2.2 bt347.2.2.2.1 bt347.2.2.2.2 true bt312.1 bt312.2.1 bt312.2.2 t321 t322 bt323.1 bt323.2.1 bt323.2.2.1 bt335.1 bt335.2.1 bt335.2.2.1 bt347.1 bt347.2.1 bt347.2.2.1) else (if t334 ≥ (bt323.1.length : Int) then (bazaarlaw06_NodeFinds.j0 k t311 t334 bt335.2.2.2.1 bt335.2.2.2.2 bt347.2.2.2.1 bt347.2.2.2.2 true bt312.1 bt312.2.1 bt312.2.2 t321 t322 bt323.1 bt323.2.1 bt323.2.2.1 bt335.1 bt335.2.1 bt335.2.2.1 bt347.1 bt347.2.1 bt347.2.2.1) else ((node_Right.f k bt323.1 bt323.2.1 bt323.2.2.1).bind fun t359 => (bazaarlaw06_NodeFinds.j0 k t311 t334 bt335.2.2.2.1 bt335.2.2.2.2 bt347.2.2.2.1 bt347.2.2.2.2 (!t359) bt312.1 bt312.2.1 bt312.2.2 t321 t322 bt323.1 bt323.2.1 bt323.2.2.1 bt335.1 bt335.2.1 bt335.2.2.1 bt347.1 bt347.2.1 bt347.2.2.1))))))) else (if t311 = true then (some ((bt323.1.length : Int) == 0)) else (some false)))))))
theorem bazaarlaw06_NodeFinds.mono_l : ∀ k, (∀ y0 y1 y2 y3 y4 y5 y6 y7 y8 y9 y10 y11 y12 y13 y14 y15 y16 y17 y18 y19 y20, LeO (bazaarlaw06_NodeFinds.j0 k y0 y1 y2 y3 y4 y5 y6 y7 y8 y9 y10 y11 y12 y13 y14 y15 y16 y17 y18 y19 y20) (bazaarlaw06_NodeFinds.j0 (k + 1) y0 y1 y2 y3 y4 y5 y6 y7 y8 y9 y10 y11 y12 y13 y14 y15 y16 y17 y18 y19 y20))
  | 0 => fun _ _ _ _ _ _ _ _ _ _ _ _ _ _ _ _ _ _ _ _ _ r h => by simp [bazaarlaw06_NodeFinds.j0] at h
  | k + 1 => by
    have ih0 := bazaarlaw06_NodeFinds.mono_l k
    · intro y0 y1 y2 y3 y4 y5 y6 y7 y8 y9 y10 y11 y12 y13 y14 y15 y16 y17 y18 y19 y20
      unfold bazaarlaw06_NodeFinds.j0
      repeat' first
      | (with_reducible exact ih0 _ _ _ _ _ _ _ _ _ _ _ _ _ _ _ _ _ _ _ _ _)
      | (with_reducible exact bazaarlaw06_cut.mono _ _ _ _)
      | (with_reducible exact bazaarref06_Same.mono _ _ _ _ _ _ _)
      | (with_reducible exact node_Place.mono _ _ _ _ _)
      | (with_reducible exact node_Right.mono _ _ _ _)
      | (with_reducible exact LeO.refl _)
      | (with_reducible exact LeO.none _)
      | (with_reducible refine LeO.ite ?_ ?_)
      | (with_reducible refine LeO.bind ?_ (fun _ => ?_))
      | exact ih0 _ _ _ _ _ _ _ _ _ _ _ _ _ _ _ _ _ _ _ _ _
      | exact bazaarlaw06_cut.mono _ _ _ _
      | exact bazaarref06_Same.mono _ _ _ _ _ _ _
      | exact node_Place.mono _ _ _ _ _
      | exact node_Right.mono _ _ _ _
      | exact LeO.none _
      | refine LeO.ite ?_ ?_
      | refine LeO.bind ?_ (fun _ => ?_)
theorem bazaarlaw06_NodeFinds.mono : ∀ a0 a1 a2 a3 a4 k, LeO (bazaarlaw06_NodeFinds.f k a0 a1 a2 a3 a4) (bazaarlaw06_NodeFinds.f (k + 1) a0 a1 a2 a3 a4) := by
  intro a0 a1 a2 a3 a4 k
  have ih0 := bazaarlaw06_NodeFinds.mono_l k
  unfold bazaarlaw06_NodeFinds.f
  repeat' first
      | (with_reducible exact ih0 _ _ _ _ _ _ _ _ _ _ _ _ _ _ _ _ _ _ _ _ _)
      | (with_reducible exact bazaarlaw06_cut.mono _ _ _ _)
      | (with_reducible exact bazaarref06_Same.mono _ _ _ _ _ _ _)
      | (with_reducible exact node_Place.mono _ _ _ _ _)
      | (with_reducible exact node_Right.mono _ _ _ _)
      | (with_reducible exact LeO.refl _)
      | (with_reducible exact LeO.none _)
      | (with_reducible refine LeO.ite ?_ ?_)
      | (with_reducible refine LeO.bind ?_ (fun _ => ?_))
      | exact ih0 _ _ _ _ _ _ _ _ _ _ _ _ _ _ _ _ _ _ _ _ _
      | exact bazaarlaw06_cut.mono _ _ _ _
      | exact bazaarref06_Same.mono _ _ _ _ _ _ _
      | exact node_Place.mono _ _ _ _ _
      | exact node_Right.mono _ _ _ _
      | exact LeO.none _
      | refine LeO.ite ?_ ?_
      | refine LeO.bind ?_ (fun _ => ?_)
def bazaarlaw06_NodeFinds.T3 : Bool × List (List Nat × List Nat) := (true, [([], []), ([0], [0]), ([1], [1]), ([], []), ([3], [3]), ([4, 2], [4]), ([2, 5], [2, 5]), ([6, 5, 0, 1, 2, 3, 4, 5, 6], [6])])
def bazaarlaw06_NodeFinds.B3 : List Nat := [0, 1, 3, 0, 8, 31, 63, 127]
theorem bazaarlaw06_NodeFinds.tab3 : rtab .any (opsOf Try.f7 3) = bazaarlaw06_NodeFinds.T3 := by kernel_rfl
theorem bazaarlaw06_NodeFinds.bits3 : waitsOk bazaarlaw06_NodeFinds.T3.2 bazaarlaw06_NodeFinds.B3 = true := by kernel_rfl
def bazaarlaw06_NodeFinds.T15 : Bool × List (List Nat × List Nat) := (true, [([], []), ([0], [0]), ([1], [1]), ([2, 1], [1, 2]), ([1], [1]), ([3, 4, 1], [1, 3, 4]), ([5, 1], [1, 5]), ([1], [1]), ([6, 7, 1], [1, 6, 7]), ([1, 8], [1, 8]), ([9, 1], [9]), ([10], [10]), ([10, 11], [10, 11]), ([12, 10], [12]), ([13], [13]), ([14, 13], [13, 14]), ([13, 15], [13, 15]), ([16, 13], [16]), ([17], [17]), ([18, 17], [17, 18]), ([17, 19], [17, 19]), ([20, 17], [20]), ([21], [21]), ([21], [21]), ([22, 23, 21, 21], [21, 22, 23]), ([21, 24], [21, 24]), ([25, 24], [25]), ([26], [26]), ([27, 26], [26, 27]), ([28, 26], [26, 28]), ([26], [26]), ([30, 26], [26, 30]), ([31, 26], [26, 31]), ([26], [26]), ([32, 33, 26], [26, 32, 33]), ([29, 34, 26], [26, 29, 34]), ([26, 35], [26, 35]), ([36, 26, 0, 1, 2, 3, 4, 5, 6, 7, 8, 9, 10, 11, 12, 13, 14, 15, 16, 17, 18, 19, 20, 21, 22, 23, 24, 25, 26, 27, 28, 29, 30, 31, 32, 33, 34, 35, 36], [36])])
def bazaarlaw06_NodeFinds.B15 : List Nat := [0, 1, 3, 7, 3, 31, 63, 3, 255, 511, 1023, 2047, 4095, 8191, 16383, 32767, 65535, 131071, 262143, 524287, 1048575, 2097151, 4194303, 4194303, 16777215, 33554431, 67108863, 134217727, 268435455, 536870911, 134217727, 1207959551, 3355443199, 134217727, 16240345087, 34359738367, 68719476735, 137438953471]
theorem bazaarlaw06_NodeFinds.tab15 : rtab .any (opsOf Try.f7 15) = bazaarlaw06_NodeFinds.T15 := by kernel_rfl
theorem bazaarlaw06_NodeFinds.bits15 : waitsOk bazaarlaw06_NodeFinds.T15.2 bazaarlaw06_NodeFinds.B15 = true := by kernel_rfl
set_option maxHeartbeats 8000000 in
set_option maxRecDepth 100000 in
theorem bazaarlaw06_NodeFinds.calls (k : Nat) (A0_0 : Option Addr) (c0_0 : Nat) (l0_0 : List (S39)) (A0_1 : Option Addr) (c0_1 : Nat) (l0_1 : List ByteArray) (A0_2 : Option Addr) (c0_2 : Nat) (l0_2 : List Int) (a1_0 : ByteArray) (a1_1 : ByteArray) (r : Bool) (w : World) (hr0_0 : Kd.C k39 w A0_0 l0_0.length l0_0) (hc0_0 : l0_0.length ≤ c0_0) (hr0_1 : Kd.C Kd.string w A0_1 l0_1.length l0_1) (hc0_1 : l0_1.length ≤ c0_1) (hr0_2 : Kd.C (Kd.int .u32) w A0_2 l0_2.length l0_2) (hc0_2 : l0_2.length ≤ c0_2) (h : bazaarlaw06_NodeFinds.f k l0_0 l0_1 l0_2 a1_0 a1_1 = some r) (hr_ : r = true) :
    Calls Try.prog 7 #[.agg #[.slice A0_0 l0_0.length c0_0, .slice A0_1 l0_1.length c0_1, .slice A0_2 l0_2.length c0_2], .agg #[.string a1_0, .string a1_1]] w fun e w' => e = .returned (.bool r) ∧ Below w.heap.size w w' := by
  have hu26 := Try.underlying26
  have hu39 := Try.underlying39
  have HR0_0 := Aside0.mk hr0_0
  have HC0_0 := Aside0.mk hc0_0
  clear hr0_0 hc0_0
  have HR0_1 := Aside0.mk hr0_1
  have HC0_1 := Aside0.mk hc0_1
  clear hr0_1 hc0_1
  have HR0_2 := Aside0.mk hr0_2
  have HC0_2 := Aside0.mk hc0_2
  clear hr0_2 hc0_2
  have HB := Aside0.mk (Below.refl w.heap.size w)
  have H : ((bazaarlaw06_shown.f).bind fun t311 => ((bazaarlaw06_cut.f k l0_0 l0_1 l0_2).bind fun bt312 => ((bazaarlaw06_text.f a1_0).bind fun t321 => ((bazaarlaw06_text.f a1_1).bind fun t322 => ((node_Put.f bt312.1 bt312.2.1 bt312.2.2 t321 t322).bind fun bt323 => (if bt323.2.2.2 = 0 then ((node_Place.f k bt323.1 bt323.2.1 bt323.2.2.1 t321).bind fun t334 => ((node_Delete.f bt323.1 bt323.2.1 bt323.2.2.1 t321).bind fun bt335 => ((node_Delete.f bt312.1 bt312.2.1 bt312.2.2 t321).bind fun bt347 => (if t334 < 0 then (bazaarlaw06_NodeFinds.j0 k t311 t334 bt335.2.2.2.1 bt335.2.2.2.2 bt347.2.2.2.1 bt347.2.2.2.2 true bt312.1 bt312.2.1 bt312.2.2 t321 t322 bt323.1 bt323.2.1 bt323.2.2.1 bt335.1 bt335.2.1 bt335.2.2.1 bt347.1 bt347.2.1 bt347.2.2.1) else (if t334 ≥ (bt323.1.length : Int) then (bazaarlaw06_NodeFinds.j0 k t311 t334 bt335.2.2.2.1 bt335.2.2.2.2 bt347.2.2.2.1 bt347.2.2.2.2 true bt312.1 bt312.2.1 bt312.2.2 t321 t322 bt323.1 bt323.2.1 bt323.2.2.1 bt335.1 bt335.2.1 bt335.2.2.1 bt347.1 bt347.2.1 bt347.2.2.1) else ((node_Right.f k bt323.1 bt323.2.1 bt323.2.2.1).bind fun t359 => (bazaarlaw06_NodeFinds.j0 k t311 t334 bt335.2.2.2.1 bt335.2.2.2.2 bt347.2.2.2.1 bt347.2.2.2.2 (!t359) bt312.1 bt312.2.1 bt312.2.2 t321 t322 bt323.1 bt323.2.1 bt323.2.2.1 bt335.1 bt335.2.1 bt335.2.2.1 bt347.1 bt347.2.1 bt347.2.2.1))))))) else (if t311 = true then (some ((bt323.1.length : Int) == 0)) else (some false)))))))) = some r := h
  clear h
  replace H := Option.bind_eq_some_iff.mp H
  obtain ⟨t311, A30, H⟩ := H
  replace H : ((bazaarlaw06_cut.f k l0_0 l0_1 l0_2).bind fun bt312 => ((bazaarlaw06_text.f a1_0).bind fun t321 => ((bazaarlaw06_text.f a1_1).bind fun t322 => ((node_Put.f bt312.1 bt312.2.1 bt312.2.2 t321 t322).bind fun bt323 => (if bt323.2.2.2 = 0 then ((node_Place.f k bt323.1 bt323.2.1 bt323.2.2.1 t321).bind fun t334 => ((node_Delete.f bt323.1 bt323.2.1 bt323.2.2.1 t321).bind fun bt335 => ((node_Delete.f bt312.1 bt312.2.1 bt312.2.2 t321).bind fun bt347 => (if t334 < 0 then (bazaarlaw06_NodeFinds.j0 k t311 t334 bt335.2.2.2.1 bt335.2.2.2.2 bt347.2.2.2.1 bt347.2.2.2.2 true bt312.1 bt312.2.1 bt312.2.2 t321 t322 bt323.1 bt323.2.1 bt323.2.2.1 bt335.1 bt335.2.1 bt335.2.2.1 bt347.1 bt347.2.1 bt347.2.2.1) else (if t334 ≥ (bt323.1.length : Int) then (bazaarlaw06_NodeFinds.j0 k t311 t334 bt335.2.2.2.1 bt335.2.2.2.2 bt347.2.2.2.1 bt347.2.2.2.2 true bt312.1 bt312.2.1 bt312.2.2 t321 t322 bt323.1 bt323.2.1 bt323.2.2.1 bt335.1 bt335.2.1 bt335.2.2.1 bt347.1 bt347.2.1 bt347.2.2.1) else ((node_Right.f k bt323.1 bt323.2.1 bt323.2.2.1).bind fun t359 => (bazaarlaw06_NodeFinds.j0 k t311 t334 bt335.2.2.2.1 bt335.2.2.2.2 bt347.2.2.2.1 bt347.2.2.2.2 (!t359) bt312.1 bt312.2.1 bt312.2.2 t321 t322 bt323.1 bt323.2.1 bt323.2.2.1 bt335.1 bt335.2.1 bt335.2.2.1 bt347.1 bt347.2.1 bt347.2.2.1))))))) else (if t311 = true then (some ((bt323.1.length : Int) == 0)) else (some false))))))) = some r := H
  have A3 := Aside0.mk A30
  clear A30
  replace H := Option.bind_eq_some_iff.mp H
  obtain ⟨⟨t312, t315, t318⟩, A40, H⟩ := H
  replace H : ((bazaarlaw06_text.f a1_0).bind fun t321 => ((bazaarlaw06_text.f a1_1).bind fun t322 => ((node_Put.f t312 t315 t318 t321 t322).bind fun bt323 => (if bt323.2.2.2 = 0 then ((node_Place.f k bt323.1 bt323.2.1 bt323.2.2.1 t321).bind fun t334 => ((node_Delete.f bt323.1 bt323.2.1 bt323.2.2.1 t321).bind fun bt335 => ((node_Delete.f t312 t315 t318 t321).bind fun bt347 => (if t334 < 0 then (bazaarlaw06_NodeFinds.j0 k t311 t334 bt335.2.2.2.1 bt335.2.2.2.2 bt347.2.2.2.1 bt347.2.2.2.2 true t312 t315 t318 t321 t322 bt323.1 bt323.2.1 bt323.2.2.1 bt335.1 bt335.2.1 bt335.2.2.1 bt347.1 bt347.2.1 bt347.2.2.1) else (if t334 ≥ (bt323.1.length : Int) then (bazaarlaw06_NodeFinds.j0 k t311 t334 bt335.2.2.2.1 bt335.2.2.2.2 bt347.2.2.2.1 bt347.2.2.2.2 true t312 t315 t318 t321 t322 bt323.1 bt323.2.1 bt323.2.2.1 bt335.1 bt335.2.1 bt335.2.2.1 bt347.1 bt347.2.1 bt347.2.2.1) else ((node_Right.f k bt323.1 bt323.2.1 bt323.2.2.1).bind fun t359 => (bazaarlaw06_NodeFinds.j0 k t311 t334 bt335.2.2.2.1 bt335.2.2.2.2 bt347.2.2.2.1 bt347.2.2.2.2 (!t359) t312 t315 t318 t321 t322 bt323.1 bt323.2.1 bt323.2.2.1 bt335.1 bt335.2.1 bt335.2.2.1 bt347.1 bt347.2.1 bt347.2.2.1))))))) else (if t311 = true then (some ((bt323.1.length : Int) == 0)) else (some false)))))) = some r := H
  have A4 := Aside0.mk A40
  clear A40
  replace H := Option.bind_eq_some_iff.mp H
  obtain ⟨t321, A50, H⟩ := H
  replace H : ((bazaarlaw06_text.f a1_1).bind fun t322 => ((node_Put.f t312 t315 t318 t321 t322).bind fun bt323 => (if bt323.2.2.2 = 0 then ((node_Place.f k bt323.1 bt323.2.1 bt323.2.2.1 t321).bind fun t334 => ((node_Delete.f bt323.1 bt323.2.1 bt323.2.2.1 t321).bind fun bt335 => ((node_Delete.f t312 t315 t318 t321).bind fun bt347 => (if t334 < 0 then (bazaarlaw06_NodeFinds.j0 k t311 t334 bt335.2.2.2.1 bt335.2.2.2.2 bt347.2.2.2.1 bt347.2.2.2.2 true t312 t315 t318 t321 t322 bt323.1 bt323.2.1 bt323.2.2.1 bt335.1 bt335.2.1 bt335.2.2.1 bt347.1 bt347.2.1 bt347.2.2.1) else (if t334 ≥ (bt323.1.length : Int) then (bazaarlaw06_NodeFinds.j0 k t311 t334 bt335.2.2.2.1 bt335.2.2.2.2 bt347.2.2.2.1 bt347.2.2.2.2 true t312 t315 t318 t321 t322 bt323.1 bt323.2.1 bt323.2.2.1 bt335.1 bt335.2.1 bt335.2.2.1 bt347.1 bt347.2.1 bt347.2.2.1) else ((node_Right.f k bt323.1 bt323.2.1 bt323.2.2.1).bind fun t359 => (bazaarlaw06_NodeFinds.j0 k t311 t334 bt335.2.2.2.1 bt335.2.2.2.2 bt347.2.2.2.1 bt347.2.2.2.2 (!t359) t312 t315 t318 t321 t322 bt323.1 bt323.2.1 bt323.2.2.1 bt335.1 bt335.2.1 bt335.2.2.1 bt347.1 bt347.2.1 bt347.2.2.1))))))) else (if t311 = true then (some ((bt323.1.length : Int) == 0)) else (some false))))) = some r := H
  have A5 := Aside0.mk A50
  clear A50
  replace H := Option.bind_eq_some_iff.mp H
  obtain ⟨t322, A60, H⟩ := H
  replace H : ((node_Put.f t312 t315 t318 t321 t322).bind fun bt323 => (if bt323.2.2.2 = 0 then ((node_Place.f k bt323.1 bt323.2.1 bt323.2.2.1 t321).bind fun t334 => ((node_Delete.f bt323.1 bt323.2.1 bt323.2.2.1 t321).bind fun bt335 => ((node_Delete.f t312 t315 t318 t321).bind fun bt347 => (if t334 < 0 then (bazaarlaw06_NodeFinds.j0 k t311 t334 bt335.2.2.2.1 bt335.2.2.2.2 bt347.2.2.2.1 bt347.2.2.2.2 true t312 t315 t318 t321 t322 bt323.1 bt323.2.1 bt323.2.2.1 bt335.1 bt335.2.1 bt335.2.2.1 bt347.1 bt347.2.1 bt347.2.2.1) else (if t334 ≥ (bt323.1.length : Int) then (bazaarlaw06_NodeFinds.j0 k t311 t334 bt335.2.2.2.1 bt335.2.2.2.2 bt347.2.2.2.1 bt347.2.2.2.2 true t312 t315 t318 t321 t322 bt323.1 bt323.2.1 bt323.2.2.1 bt335.1 bt335.2.1 bt335.2.2.1 bt347.1 bt347.2.1 bt347.2.2.1) else ((node_Right.f k bt323.1 bt323.2.1 bt323.2.2.1).bind fun t359 => (bazaarlaw06_NodeFinds.j0 k t311 t334 bt335.2.2.2.1 bt335.2.2.2.2 bt347.2.2.2.1 bt347.2.2.2.2 (!t359) t312 t315 t318 t321 t322 bt323.1 bt323.2.1 bt323.2.2.1 bt335.1 bt335.2.1 bt335.2.2.1 bt347.1 bt347.2.1 bt347.2.2.1))))))) else (if t311 = true then (some ((bt323.1.length : Int) == 0)) else (some false)))) = some r := H
  have A6 := Aside0.mk A60
  clear A60
  replace H := Option.bind_eq_some_iff.mp H
  obtain ⟨⟨t323, t326, t329, t332⟩, A70, H⟩ := H
  replace H : (if t332 = 0 then ((node_Place.f k t323 t326 t329 t321).bind fun t334 => ((node_Delete.f t323 t326 t329 t321).bind fun bt335 => ((node_Delete.f t312 t315 t318 t321).bind fun bt347 => (if t334 < 0 then (bazaarlaw06_NodeFinds.j0 k t311 t334 bt335.2.2.2.1 bt335.2.2.2.2 bt347.2.2.2.1 bt347.2.2.2.2 true t312 t315 t318 t321 t322 t323 t326 t329 bt335.1 bt335.2.1 bt335.2.2.1 bt347.1 bt347.2.1 bt347.2.2.1) else (if t334 ≥ (t323.length : Int) then (bazaarlaw06_NodeFinds.j0 k t311 t334 bt335.2.2.2.1 bt335.2.2.2.2 bt347.2.2.2.1 bt347.2.2.2.2 true t312 t315 t318 t321 t322 t323 t326 t329 bt335.1 bt335.2.1 bt335.2.2.1 bt347.1 bt347.2.1 bt347.2.2.1) else ((node_Right.f k t323 t326 t329).bind fun t359 => (bazaarlaw06_NodeFinds.j0 k t311 t334 bt335.2.2.2.1 bt335.2.2.2.2 bt347.2.2.2.1 bt347.2.2.2.2 (!t359) t312 t315 t318 t321 t322 t323 t326 t329 bt335.1 bt335.2.1 bt335.2.2.1 bt347.1 bt347.2.1 bt347.2.2.1))))))) else (if t311 = true then (some ((t323.length : Int) == 0)) else (some false))) = some r := H
  have A7 := Aside0.mk A70
  clear A70
  by_cases c8 : t332 = 0
  rotate_left
  · rw [if_neg c8] at H
    have c8b0 : (t332 == 0) = false := beq_eq_false_iff_ne.mpr c8
    have c8b1 : (t332 != 0) = true := bne_iff_ne.mpr c8
    by_cases c116 : t311 = true
    rotate_left
    · replace c116 := Bool.eq_false_iff.mpr c116
      subst c116
      have H1 : (some false) = some r := by rw [if_neg (show ¬ (false = true) by decide)] at H; exact H
      clear H
      have H := H1
      clear H1
      obtain rfl := Option.some.inj H
      cases hr_
    subst c116
    have H1 : (some ((t323.length : Int) == 0)) = some r := by rw [if_pos rfl] at H; exact H
    clear H
    have H := H1
    clear H1
    obtain rfl := Option.some.inj H
    go_enter Try.func7, Try.ntmps7
    try go_wp2_with (first | ((with_reducible refine gate_dst (N := 2) rfl ?_); (try (refine gate_guard (by rfl) ?_; dsimp only)); refine box_event ?hg (N := 2) ?hd (cs := #[.slice A0_0 l0_0.length c0_0, .slice A0_1 l0_1.length c0_1, .slice A0_2 l0_2.length c0_2]) (t := 26) ?hr ?_; (case hd => rfl); (case hg => rfl); (case hr => first | (go_simp; done) | (go_simp; rfl)); intro gb309 hg w117 hbox hb; have n0_ := Aside0.mk (below_step (by repeat (first | (with_reducible first | exact HB.out | apply below_alloc | apply pw_below_drewN | apply below_drew1) | exact HB.out)) hb); have n1_ := Aside0.mk (hbox); have n2_ := Aside0.mk ((by rw [hg]; exact (below_size (by repeat (first | (with_reducible first | exact HB.out | apply below_alloc | apply pw_below_drewN | apply below_drew1) | exact HB.out))) : w.heap.size ≤ gb309)); have n3_ := Aside0.mk ((by rw [hg]; exact (below_size (by repeat (first | (with_reducible first | exact HB.out | apply below_alloc | apply pw_below_drewN | apply below_drew1) | exact HB.out))) : w.heap.size ≤ gb309)); clear HB; have HB := n0_; have BK309 := n1_; have GW309 := n2_; have GE309 := n3_; clear n0_ n1_ n2_ n3_; clear hb hbox hg) | ((with_reducible refine gate_dst (N := 3) rfl ?_); (try (refine gate_guard (by rfl) ?_; dsimp only)); refine box_event ?hg (N := 3) ?hd (cs := #[.string a1_0, .string a1_1]) (t := 39) ?hr ?_; (case hd => rfl); (case hg => rfl); (case hr => first | (go_simp; done) | (go_simp; rfl)); intro gb310 hg w118 hbox hb; have n0_ := Aside0.mk (blk_below (g := gb309) (o := .cells #[.slice A0_0 l0_0.length c0_0, .slice A0_1 l0_1.length c0_1, .slice A0_2 l0_2.length c0_2] 26 (0, 0)) (by (with_reducible repeat (first | refine blk_drewN ?_ _ | refine blk_drew ?_ | refine blk_alloc ?_ _)); exact BK309.out) hb); have n1_ := Aside0.mk (below_step (by repeat (first | (with_reducible first | exact HB.out | apply below_alloc | apply pw_below_drewN | apply below_drew1 | refine below_set ?_ GE309.out) | exact HB.out)) hb); have n2_ := Aside0.mk (hbox); have n3_ := Aside0.mk ((by rw [hg]; exact (below_size (by repeat (first | (with_reducible first | exact HB.out | apply below_alloc | apply pw_below_drewN | apply below_drew1 | refine below_set ?_ GE309.out) | exact HB.out))) : w.heap.size ≤ gb310)); have n4_ := Aside0.mk ((by rw [hg]; exact (below_size (by repeat (first | (with_reducible first | exact HB.out | apply below_alloc | apply pw_below_drewN | apply below_drew1 | refine below_set ?_ GE309.out) | exact HB.out))) : w.heap.size ≤ gb310)); have n5_ := Aside0.mk ((by rw [hg]; exact Nat.ne_of_lt (blk_lt (g := gb309) (o := .cells #[.slice A0_0 l0_0.length c0_0, .slice A0_1 l0_1.length c0_1, .slice A0_2 l0_2.length c0_2] 26 (0, 0)) (by (with_reducible repeat (first | refine blk_drewN ?_ _ | refine blk_drew ?_ | refine blk_alloc ?_ _)); exact BK309.out)) : gb309 ≠ gb310)); have n6_ := Aside0.mk ((by rw [hg]; exact Nat.ne_of_gt (blk_lt (g := gb309) (o := .cells #[.slice A0_0 l0_0.length c0_0, .slice A0_1 l0_1.length c0_1, .slice A0_2 l0_2.length c0_2] 26 (0, 0)) (by (with_reducible repeat (first | refine blk_drewN ?_ _ | refine blk_drew ?_ | refine blk_alloc ?_ _)); exact BK309.out)) : gb310 ≠ gb309)); clear BK309; clear HB; have BK309 := n0_; have HB := n1_; have BK310 := n2_; have GW310 := n3_; have GE310 := n4_; have NB309_310 := n5_; have NB310_309 := n6_; clear n0_ n1_ n2_ n3_ n4_ n5_ n6_; clear hb hbox hg) | ((with_reducible refine gate_callee (f := 10) rfl ?_); refine goesL_ (some 16) rfl rfl Try.func10 (by kernel_rfl) rfl #[] rfl (by (try simp only [List.map_toArray, List.map_cons, List.map_nil]); first | done | rfl | (simp only [List.length_drop, List.length_take]; rfl)) ?_; (with_reducible refine (bazaarlaw06_shown.calls  true _ A3.out).mono ?_); rintro e w119 ⟨rfl, hb⟩; refine ⟨_, rfl, ?_⟩; have n0_ := Aside0.mk (blk_below (g := gb309) (o := .cells #[.slice A0_0 l0_0.length c0_0, .slice A0_1 l0_1.length c0_1, .slice A0_2 l0_2.length c0_2] 26 (0, 0)) (by (with_reducible repeat (first | refine blk_drewN ?_ _ | refine blk_drew ?_ | refine blk_alloc ?_ _)); exact BK309.out) hb); have n1_ := Aside0.mk (blk_below (g := gb310) (o := .cells #[.string a1_0, .string a1_1] 39 (0, 0)) (by (with_reducible repeat (first | refine blk_drewN ?_ _ | refine blk_drew ?_ | refine blk_alloc ?_ _)); exact BK310.out) hb); have n2_ := Aside0.mk (below_step (by repeat (first | (with_reducible first | exact HB.out | apply below_alloc | apply pw_below_drewN | apply below_drew1 | refine below_set ?_ GE309.out | refine below_set ?_ GE310.out) | exact HB.out)) hb); clear BK309; clear BK310; clear HB; have BK309 := n0_; have BK310 := n1_; have HB := n2_; clear n0_ n1_ n2_; (try clear hb); (try clear hb2); (try clear hk); (try clear hi); have hnb120 := NB309_310.out; have hnc120 := NB310_309.out; have hcz121_0 : w119.cell? ⟨gb309, 0, none⟩ = some (.slice A0_0 l0_0.length c0_0) := (blk_cell BK309.out 0).trans rfl; have hcz121_1 : w119.cell? ⟨gb309, 1, none⟩ = some (.slice A0_1 l0_1.length c0_1) := (blk_cell BK309.out 1).trans rfl; have hcz121_2 : w119.cell? ⟨gb309, 2, none⟩ = some (.slice A0_2 l0_2.length c0_2) := (blk_cell BK309.out 2).trans rfl; have hfz121_0 := blk_frozen BK309.out 0; have hfz121_1 := blk_frozen BK309.out 1; have hfz121_2 := blk_frozen BK309.out 2) | ((with_reducible refine gate_callee (f := 11) rfl ?_); refine goesL_ (some 18) rfl rfl Try.func11 (by kernel_rfl) rfl #[.agg #[.slice A0_0 l0_0.length c0_0, .slice A0_1 l0_1.length c0_1, .slice A0_2 l0_2.length c0_2]] rfl (by (try simp only [List.map_toArray, List.map_cons, List.map_nil]); first | done | rfl | (simp only [List.length_drop, List.length_take]; rfl)) ?_; (with_reducible refine (bazaarlaw06_cut.calls k _ _ l0_0 _ _ l0_1 _ _ l0_2 t312 t315 t318 _ ?side1 ?side2 ?side3 ?side4 ?side5 ?side6 A4.out).mono ?_); (case side1 => repeat (first | exact (Kd.C_below HR0_0.out HB.out) | (with_reducible refine Kd.C_alloc ?_ _) | (with_reducible refine Kd.C_drewN ?_ _) | (with_reducible refine Kd.C_drew ?_))); (case side2 => exact HC0_0.out); (case side3 => repeat (first | exact (Kd.C_below HR0_1.out HB.out) | (with_reducible refine Kd.C_alloc ?_ _) | (with_reducible refine Kd.C_drewN ?_ _) | (with_reducible refine Kd.C_drew ?_))); (case side4 => exact HC0_1.out); (case side5 => repeat (first | exact (Kd.C_below HR0_2.out HB.out) | (with_reducible refine Kd.C_alloc ?_ _) | (with_reducible refine Kd.C_drewN ?_ _) | (with_reducible refine Kd.C_drew ?_))); (case side6 => exact HC0_2.out); rintro e w122 ⟨v313, v316, v319, rfl, ho0, ho1, ho2, hb⟩; refine ⟨_, rfl, ?_⟩; have n0_ := Aside0.mk (Kd.R_lower (Kd.R_newB ho0 (g := gb310) (o := .cells #[.string a1_0, .string a1_1] 39 (0, 0)) (by (with_reducible repeat (first | refine blk_drewN ?_ _ | refine blk_drew ?_ | refine blk_alloc ?_ _)); exact BK310.out)) (below_size (by repeat (first | (with_reducible first | exact HB.out | apply below_alloc | apply pw_below_drewN | apply below_drew1 | refine below_set ?_ GE309.out | refine below_set ?_ GE310.out) | exact HB.out)))); have n1_ := Aside0.mk (Kd.R_lower ho1 (below_size (by repeat (first | (with_reducible first | exact HB.out | apply below_alloc | apply pw_below_drewN | apply below_drew1 | refine below_set ?_ GE309.out | refine below_set ?_ GE310.out) | exact HB.out)))); have n2_ := Aside0.mk (Kd.R_lower ho2 (below_size (by repeat (first | (with_reducible first | exact HB.out | apply below_alloc | apply pw_below_drewN | apply below_drew1 | refine below_set ?_ GE309.out | refine below_set ?_ GE310.out) | exact HB.out)))); have n3_ := Aside0.mk (blk_below (g := gb309) (o := .cells #[.slice A0_0 l0_0.length c0_0, .slice A0_1 l0_1.length c0_1, .slice A0_2 l0_2.length c0_2] 26 (0, 0)) (by (with_reducible repeat (first | refine blk_drewN ?_ _ | refine blk_drew ?_ | refine blk_alloc ?_ _)); exact BK309.out) hb); have n4_ := Aside0.mk (blk_below (g := gb310) (o := .cells #[.string a1_0, .string a1_1] 39 (0, 0)) (by (with_reducible repeat (first | refine blk_drewN ?_ _ | refine blk_drew ?_ | refine blk_alloc ?_ _)); exact BK310.out) hb); have n5_ := Aside0.mk (below_step (by repeat (first | (with_reducible first | exact HB.out | apply below_alloc | apply pw_below_drewN | apply below_drew1 | refine below_set ?_ GE309.out | refine below_set ?_ GE310.out) | exact HB.out)) hb); clear BK309; clear BK310; clear HB; have HO314 := n0_; have HO317 := n1_; have HO320 := n2_; have BK309 := n3_; have BK310 := n4_; have HB := n5_; clear n0_ n1_ n2_ n3_ n4_ n5_; (try clear hb); (try clear hb2); (try clear hk); (try clear hi); (try clear ho0); (try clear ho1); (try clear ho2); obtain ⟨Ao123, co123, eo123⟩ := Kd.R_slice HO314.out; subst eo123; have hcz124_0 : w122.cell? ⟨gb309, 0, none⟩ = some (.slice A0_0 l0_0.length c0_0) := (blk_cell BK309.out 0).trans rfl; have hcz124_1 : w122.cell? ⟨gb309, 1, none⟩ = some (.slice A0_1 l0_1.length c0_1) := (blk_cell BK309.out 1).trans rfl; have hcz124_2 : w122.cell? ⟨gb309, 2, none⟩ = some (.slice A0_2 l0_2.length c0_2) := (blk_cell BK309.out 2).trans rfl; have hfz124_0 := blk_frozen BK309.out 0; have hfz124_1 := blk_frozen BK309.out 1; have hfz124_2 := blk_frozen BK309.out 2; obtain ⟨Ao125, co125, eo125⟩ := Kd.R_slice HO317.out; subst eo125; obtain ⟨Ao126, co126, eo126⟩ := Kd.R_slice HO320.out; subst eo126))
    have n0_ : Aside0 (Kd.R k39 39 (((w122.setCell ⟨gb309, 0, none⟩ (.slice Ao123 t312.length co123)).setCell ⟨gb309, 1, none⟩ (.slice Ao125 t315.length co125)).setCell ⟨gb309, 2, none⟩ (.slice Ao126 t318.length co126)) w.heap.size (fun k_ => k_ ≠ gb310) (.slice Ao123 t312.length co123) t312) := ⟨by (with_reducible repeat (first | apply Kd.R_alloc | apply Kd.R_drewN | apply Kd.R_drew)); exact Kd.R_mono (Kd.R_far (p := ⟨gb309, 2, none⟩) (Kd.R_far (p := ⟨gb309, 1, none⟩) (Kd.R_far (p := ⟨gb309, 0, none⟩) (Kd.R_types HO314.out BK309.out (by decide)) (fun _ hk => hk.2) (.slice Ao123 t312.length co123)) (fun _ hk => hk.2) (.slice Ao125 t315.length co125)) (fun _ hk => hk.2) (.slice Ao126 t318.length co126)) (fun _ hk => hk.1.2)⟩
    have n1_ : Aside0 (Kd.R Kd.string 9 (((w122.setCell ⟨gb309, 0, none⟩ (.slice Ao123 t312.length co123)).setCell ⟨gb309, 1, none⟩ (.slice Ao125 t315.length co125)).setCell ⟨gb309, 2, none⟩ (.slice Ao126 t318.length co126)) w.heap.size (fun _ => True) (.slice Ao125 t315.length co125) t315) := ⟨by (with_reducible repeat (first | apply Kd.R_alloc | apply Kd.R_drewN | apply Kd.R_drew)); exact Kd.R_mono (Kd.R_far (p := ⟨gb309, 2, none⟩) (Kd.R_far (p := ⟨gb309, 1, none⟩) (Kd.R_far (p := ⟨gb309, 0, none⟩) (Kd.R_types HO317.out BK309.out (by decide)) (fun _ hk => hk.2) (.slice Ao123 t312.length co123)) (fun _ hk => hk.2) (.slice Ao125 t315.length co125)) (fun _ hk => hk.2) (.slice Ao126 t318.length co126)) (fun _ hk => trivial)⟩
    have n2_ : Aside0 (Kd.R (Kd.int .u32) 65 (((w122.setCell ⟨gb309, 0, none⟩ (.slice Ao123 t312.length co123)).setCell ⟨gb309, 1, none⟩ (.slice Ao125 t315.length co125)).setCell ⟨gb309, 2, none⟩ (.slice Ao126 t318.length co126)) w.heap.size (fun _ => True) (.slice Ao126 t318.length co126) t318) := ⟨by (with_reducible repeat (first | apply Kd.R_alloc | apply Kd.R_drewN | apply Kd.R_drew)); exact Kd.R_mono (Kd.R_far (p := ⟨gb309, 2, none⟩) (Kd.R_far (p := ⟨gb309, 1, none⟩) (Kd.R_far (p := ⟨gb309, 0, none⟩) (Kd.R_types HO320.out BK309.out (by decide)) (fun _ hk => hk.2) (.slice Ao123 t312.length co123)) (fun _ hk => hk.2) (.slice Ao125 t315.length co125)) (fun _ hk => hk.2) (.slice Ao126 t318.length co126)) (fun _ hk => trivial)⟩
    have n3_ : Aside0 ((((w122.setCell ⟨gb309, 0, none⟩ (.slice Ao123 t312.length co123)).setCell ⟨gb309, 1, none⟩ (.slice Ao125 t315.length co125)).setCell ⟨gb309, 2, none⟩ (.slice Ao126 t318.length co126)).heap[gb309]? = some (.cells #[.slice Ao123 t312.length co123, .slice Ao125 t315.length co125, .slice Ao126 t318.length co126] 26 (0, 0))) := ⟨by (with_reducible repeat (first | refine blk_drewN ?_ _ | refine blk_drew ?_ | refine blk_alloc ?_ _)); refine blk_put (cs := #[.slice Ao123 t312.length co123, .slice Ao125 t315.length co125, .slice A0_2 l0_2.length c0_2]) ?_ 2 _ rfl; (with_reducible repeat (first | refine blk_drewN ?_ _ | refine blk_drew ?_ | refine blk_alloc ?_ _)); refine blk_put (cs := #[.slice Ao123 t312.length co123, .slice A0_1 l0_1.length c0_1, .slice A0_2 l0_2.length c0_2]) ?_ 1 _ rfl; (with_reducible repeat (first | refine blk_drewN ?_ _ | refine blk_drew ?_ | refine blk_alloc ?_ _)); refine blk_put (cs := #[.slice A0_0 l0_0.length c0_0, .slice A0_1 l0_1.length c0_1, .slice A0_2 l0_2.length c0_2]) ?_ 0 _ rfl; (with_reducible repeat (first | refine blk_drewN ?_ _ | refine blk_drew ?_ | refine blk_alloc ?_ _)); exact BK309.out⟩
    have n4_ : Aside0 ((((w122.setCell ⟨gb309, 0, none⟩ (.slice Ao123 t312.length co123)).setCell ⟨gb309, 1, none⟩ (.slice Ao125 t315.length co125)).setCell ⟨gb309, 2, none⟩ (.slice Ao126 t318.length co126)).heap[gb310]? = some (.cells #[.string a1_0, .string a1_1] 39 (0, 0))) := ⟨by (with_reducible repeat (first | refine blk_drewN ?_ _ | refine blk_drew ?_ | refine blk_alloc ?_ _)); refine blk_far ?_ NB310_309.out _; (with_reducible repeat (first | refine blk_drewN ?_ _ | refine blk_drew ?_ | refine blk_alloc ?_ _)); refine blk_far ?_ NB310_309.out _; (with_reducible repeat (first | refine blk_drewN ?_ _ | refine blk_drew ?_ | refine blk_alloc ?_ _)); refine blk_far ?_ NB310_309.out _; (with_reducible repeat (first | refine blk_drewN ?_ _ | refine blk_drew ?_ | refine blk_alloc ?_ _)); exact BK310.out⟩
    have n5_ : Aside0 (Below w.heap.size w (((w122.setCell ⟨gb309, 0, none⟩ (.slice Ao123 t312.length co123)).setCell ⟨gb309, 1, none⟩ (.slice Ao125 t315.length co125)).setCell ⟨gb309, 2, none⟩ (.slice Ao126 t318.length co126))) := ⟨by repeat (first | (with_reducible first | exact HB.out | apply below_alloc | apply pw_below_drewN | apply below_drew1 | refine below_set ?_ GE309.out | refine below_set ?_ GE310.out) | exact HB.out)⟩
    (try clear HO314)
    (try clear HO317)
    (try clear HO320)
    (try clear BK309)
    (try clear BK310)
    (try clear HB)
    generalize (((w122.setCell ⟨gb309, 0, none⟩ (.slice Ao123 t312.length co123)).setCell ⟨gb309, 1, none⟩ (.slice Ao125 t315.length co125)).setCell ⟨gb309, 2, none⟩ (.slice Ao126 t318.length co126)) = w127 at n0_ n1_ n2_ n3_ n4_ n5_ ⊢
    have HO314 := n0_
    have HO317 := n1_
    have HO320 := n2_
    have BK309 := n3_
    have BK310 := n4_
    have HB := n5_
    clear n0_ n1_ n2_ n3_ n4_ n5_
    have n0_ := Aside0.mk (Kd.R_drew HO314.out)
    have n1_ := Aside0.mk (Kd.R_drew HO317.out)
    have n2_ := Aside0.mk (Kd.R_drew HO320.out)
    have n3_ := Aside0.mk (blk_drew BK309.out)
    have n4_ := Aside0.mk (blk_drew BK310.out)
    have n5_ := Aside0.mk (below_drew1 HB.out)
    clear HO314
    clear HO317
    clear HO320
    clear BK309
    clear BK310
    clear HB
    have HO314 := n0_
    have HO317 := n1_
    have HO320 := n2_
    have BK309 := n3_
    have BK310 := n4_
    have HB := n5_
    clear n0_ n1_ n2_ n3_ n4_ n5_
    refine start_ (n := 8) (S := fun w' => w'.cell? ⟨gb310, 0, none⟩ = some (.string a1_0) ∧ w'.cell? ⟨gb310, 1, none⟩ = some (.string a1_1)) (ds := [7]) #[false, false, false, false, false, false, false, false] (by kernel_rfl) rfl rfl ⟨(blk_cell BK310.out 0).trans rfl, (blk_cell BK310.out 1).trans rfl⟩ (fun hHeld => ?_); refine with_tabW bazaarlaw06_NodeFinds.tab3 bazaarlaw06_NodeFinds.bits3 (fun HT_ HW_ => ?_)
    generalize w127.drew = w128 at HO314 HO317 HO320 BK309 BK310 HB hHeld ⊢
    refine pure_ (i := 0) (N := some 19) (v := ?_) (a' := ?_) #[true, false, false, false, false, false, false, false] rfl rfl (any_of HT_.out (by kernel_rfl)) (fun _ _ _ h => h) (Or.inl ⟨by rfl, ?_⟩) ?_ ?_
    rotate_left
    · intro w'
      go_simp
      with_reducible rfl
    rotate_left
    · simp only [Act.put, List.setIfInBounds_toArray, List.set_cons_zero, List.set_cons_succ, i64_w, i32_w]
      rfl
    refine pure_ (i := 3) (N := some 22) (v := ?_) (a' := ?_) #[true, false, false, true, false, false, false, false] rfl rfl (any_of HT_.out (by kernel_rfl)) (fun _ _ _ h => h) (Or.inl ⟨by rfl, ?_⟩) ?_ ?_
    rotate_left
    · intro w'
      go_simp
      with_reducible rfl
    rotate_left
    · simp only [Act.put, List.setIfInBounds_toArray, List.set_cons_zero, List.set_cons_succ, i64_w, i32_w]
      rfl
    refine take_ (i := 1) (N := some 20) (v := ?_) (a' := ?_) #[true, true, false, true, false, false, false, false] rfl rfl (take_ofW HT_.out HW_.out (by kernel_rfl)) (fun _ _ _ h => h) (Or.inl ⟨by rfl, ?_⟩) hHeld ?_ ?_
    rotate_left
    · rintro w' ⟨s0, s1⟩
      go_simp
      with_reducible rfl
    rotate_left
    · simp only [Act.put, List.setIfInBounds_toArray, List.set_cons_zero, List.set_cons_succ, i64_w, i32_w]
      rfl
    refine take_ (i := 4) (N := some 23) (v := ?_) (a' := ?_) #[true, true, false, true, true, false, false, false] rfl rfl (take_ofW HT_.out HW_.out (by kernel_rfl)) (fun _ _ _ h => h) (Or.inl ⟨by rfl, ?_⟩) hHeld ?_ ?_
    rotate_left
    · rintro w' ⟨s0, s1⟩
      go_simp
      with_reducible rfl
    rotate_left
    · simp only [Act.put, List.setIfInBounds_toArray, List.set_cons_zero, List.set_cons_succ, i64_w, i32_w]
      rfl
    refine one_ (i := 2) (N := some 21) #[true, true, true, true, true, false, false, false] rfl rfl (one_of HT_.out (by kernel_rfl)) (by decide) (fun K hK => ?_)
    refine goes_ Try.func19 (by kernel_rfl) rfl #[.string a1_0] (by rfl) rfl rfl (by (try simp only [List.map_toArray, List.map_cons, List.map_nil]); first | done | rfl | (simp only [List.length_drop, List.length_take]; rfl)) ?_
    with_reducible refine (bazaarlaw06_text.calls a1_0 t321 _ A5.out).mono ?_
    rintro e w129 ⟨rfl, hb⟩
    refine ⟨_, rfl, ?_⟩
    have n0_ := Aside0.mk (Kd.R_below (by (with_reducible repeat (first | apply Kd.R_alloc | apply Kd.R_drewN | apply Kd.R_drew)); exact HO314.out) hb)
    have n1_ := Aside0.mk (Kd.R_below (by (with_reducible repeat (first | apply Kd.R_alloc | apply Kd.R_drewN | apply Kd.R_drew)); exact HO317.out) hb)
    have n2_ := Aside0.mk (Kd.R_below (by (with_reducible repeat (first | apply Kd.R_alloc | apply Kd.R_drewN | apply Kd.R_drew)); exact HO320.out) hb)
    have n3_ := Aside0.mk (blk_below (g := gb309) (o := .cells #[.slice Ao123 t312.length co123, .slice Ao125 t315.length co125, .slice Ao126 t318.length co126] 26 (0, 0)) (by (with_reducible repeat (first | refine blk_drewN ?_ _ | refine blk_drew ?_ | refine blk_alloc ?_ _)); exact BK309.out) hb)
    have n4_ := Aside0.mk (blk_below (g := gb310) (o := .cells #[.string a1_0, .string a1_1] 39 (0, 0)) (by (with_reducible repeat (first | refine blk_drewN ?_ _ | refine blk_drew ?_ | refine blk_alloc ?_ _)); exact BK310.out) hb)
    have n5_ := Aside0.mk (below_step (by repeat (first | (with_reducible first | exact HB.out | apply below_alloc | apply pw_below_drewN | apply below_drew1 | refine below_set ?_ GE309.out | refine below_set ?_ GE310.out) | exact HB.out)) hb)
    clear HO314
    clear HO317
    clear HO320
    clear BK309
    clear BK310
    clear HB
    have HO314 := n0_
    have HO317 := n1_
    have HO320 := n2_
    have BK309 := n3_
    have BK310 := n4_
    have HB := n5_
    clear n0_ n1_ n2_ n3_ n4_ n5_
    (try clear hb)
    (try clear hb2)
    (try clear hk)
    (try clear hi)
    refine hK.out _ _ ⟨(blk_cell BK310.out 0).trans rfl, (blk_cell BK310.out 1).trans rfl⟩ (fun hHeld => ?_)
    clear hK K
    refine norm_ (a' := ?_) ?_ ?_
    rotate_left
    · show Act.put _ (some 21) _ = _
      simp only [Act.put, List.setIfInBounds_toArray, List.set_cons_zero, List.set_cons_succ, i64_w, i32_w]
      rfl
    refine one_ (i := 5) (N := some 24) #[true, true, true, true, true, true, false, false] rfl rfl (one_of HT_.out (by kernel_rfl)) (by decide) (fun K hK => ?_)
    refine goes_ Try.func19 (by kernel_rfl) rfl #[.string a1_1] (by rfl) rfl rfl (by (try simp only [List.map_toArray, List.map_cons, List.map_nil]); first | done | rfl | (simp only [List.length_drop, List.length_take]; rfl)) ?_
    with_reducible refine (bazaarlaw06_text.calls a1_1 t322 _ A6.out).mono ?_
    rintro e w130 ⟨rfl, hb⟩
    refine ⟨_, rfl, ?_⟩
    have n0_ := Aside0.mk (Kd.R_below (by (with_reducible repeat (first | apply Kd.R_alloc | apply Kd.R_drewN | apply Kd.R_drew)); exact HO314.out) hb)
    have n1_ := Aside0.mk (Kd.R_below (by (with_reducible repeat (first | apply Kd.R_alloc | apply Kd.R_drewN | apply Kd.R_drew)); exact HO317.out) hb)
    have n2_ := Aside0.mk (Kd.R_below (by (with_reducible repeat (first | apply Kd.R_alloc | apply Kd.R_drewN | apply Kd.R_drew)); exact HO320.out) hb)
    have n3_ := Aside0.mk (blk_below (g := gb309) (o := .cells #[.slice Ao123 t312.length co123, .slice Ao125 t315.length co125, .slice Ao126 t318.length co126] 26 (0, 0)) (by (with_reducible repeat (first | refine blk_drewN ?_ _ | refine blk_drew ?_ | refine blk_alloc ?_ _)); exact BK309.out) hb)
    have n4_ := Aside0.mk (blk_below (g := gb310) (o := .cells #[.string a1_0, .string a1_1] 39 (0, 0)) (by (with_reducible repeat (first | refine blk_drewN ?_ _ | refine blk_drew ?_ | refine blk_alloc ?_ _)); exact BK310.out) hb)
    have n5_ := Aside0.mk (below_step (by repeat (first | (with_reducible first | exact HB.out | apply below_alloc | apply pw_below_drewN | apply below_drew1 | refine below_set ?_ GE309.out | refine below_set ?_ GE310.out) | exact HB.out)) hb)
    clear HO314
    clear HO317
    clear HO320
    clear BK309
    clear BK310
    clear HB
    have HO314 := n0_
    have HO317 := n1_
    have HO320 := n2_
    have BK309 := n3_
    have BK310 := n4_
    have HB := n5_
    clear n0_ n1_ n2_ n3_ n4_ n5_
    (try clear hb)
    (try clear hb2)
    (try clear hk)
    (try clear hi)
    refine hK.out _ _ ⟨(blk_cell BK310.out 0).trans rfl, (blk_cell BK310.out 1).trans rfl⟩ (fun hHeld => ?_)
    clear hK K
    refine norm_ (a' := ?_) ?_ ?_
    rotate_left
    · show Act.put _ (some 24) _ = _
      simp only [Act.put, List.setIfInBounds_toArray, List.set_cons_zero, List.set_cons_succ, i64_w, i32_w]
      rfl
    refine pure_ (i := 6) (N := some 25) (v := ?_) (a' := ?_) #[true, true, true, true, true, true, true, false] rfl rfl (any_of HT_.out (by kernel_rfl)) (fun _ _ _ h => h) (Or.inl ⟨by rfl, ?_⟩) ?_ ?_
    rotate_left
    · intro w'
      go_simp
      with_reducible rfl
    rotate_left
    · simp only [Act.put, List.setIfInBounds_toArray, List.set_cons_zero, List.set_cons_succ, i64_w, i32_w]
      rfl
    refine last_ (i := 7) (N := none) #[true, true, true, true, true, true, true, true] rfl rfl (one_of HT_.out (by kernel_rfl)) (by decide) (fun K hK => ?_)
    have hs131 : w130.cell? ⟨gb310, 0, none⟩ = some (.string a1_0) := (blk_cell BK310.out 0).trans rfl
    have hfs131 := blk_frozen BK310.out 0
    have hns131_0 := NB309_310.out
    have hms131_0 := NB310_309.out
    have hs132 : w130.cell? ⟨gb310, 1, none⟩ = some (.string a1_1) := (blk_cell BK310.out 1).trans rfl
    have hfs132 := blk_frozen BK310.out 1
    have hns132_0 := NB309_310.out
    have hms132_0 := NB310_309.out
    refine skip_ (w1 := ?_) (by rfl) rfl ?_ ?_
    rotate_left
    · go_simp
      rfl
    refine hK.out _ _ ?_
    clear hK K
    refine done_ (done_of HT_.out (by kernel_rfl)) ?_
    have hcz133_0 : w130.cell? ⟨gb309, 0, none⟩ = some (.slice Ao123 t312.length co123) := (blk_cell BK309.out 0).trans rfl
    have hcz133_1 : w130.cell? ⟨gb309, 1, none⟩ = some (.slice Ao125 t315.length co125) := (blk_cell BK309.out 1).trans rfl
    have hcz133_2 : w130.cell? ⟨gb309, 2, none⟩ = some (.slice Ao126 t318.length co126) := (blk_cell BK309.out 2).trans rfl
    have hfz133_0 := blk_frozen BK309.out 0
    have hfz133_1 := blk_frozen BK309.out 1
    have hfz133_2 := blk_frozen BK309.out 2
    have hcz134_0 : w130.cell? ⟨gb310, 0, none⟩ = some (.string a1_0) := (blk_cell BK310.out 0).trans rfl
    have hcz134_1 : w130.cell? ⟨gb310, 1, none⟩ = some (.string a1_1) := (blk_cell BK310.out 1).trans rfl
    have hfz134_0 := blk_frozen BK310.out 0
    have hfz134_1 := blk_frozen BK310.out 1
    try go_wp2_with (first | ((with_reducible refine gate_callee (f := 22) rfl ?_); refine goesL_ (some 29) rfl rfl Try.func22 (by kernel_rfl) rfl #[.agg #[.slice Ao123 t312.length co123, .slice Ao125 t315.length co125, .slice Ao126 t318.length co126], .agg #[.string t321, .string t322]] rfl (by (try simp only [List.map_toArray, List.map_cons, List.map_nil]); first | done | rfl | (simp only [List.length_drop, List.length_take]; rfl)) ?_; (with_reducible refine (node_Put.calls _ _ t312 _ _ t315 _ _ t318 t321 t322 t323 t326 t329 t332 _ ?side1 ?side2 ?side3 ?side4 ?side5 ?side6 A7.out).mono ?_); (case side1 => refine (Kd.R_reads' (e := 39) (base := w.heap.size) (ok := fun k_ => k_ ≠ gb310) (n := t312.length) (c := co123) ?_).2.2; exact (by (with_reducible repeat (first | apply Kd.R_alloc | apply Kd.R_drewN | apply Kd.R_drew)); exact (Kd.R_mono (Kd.R_far (p := ⟨gb310, 1, none⟩) (Kd.R_far (p := ⟨gb310, 0, none⟩) (Kd.R_mono HO314.out (fun k_ hk => (⟨hk, hk⟩ : _ ∧ k_ ≠ gb310))) (fun _ hk => hk.2) (.string t321)) (fun _ hk => hk.2) (.string t322)) (fun _ h_ => h_.1)))); (case side2 => exact (Kd.R_reads' HO314.out).2.1); (case side3 => refine (Kd.R_reads' (e := 9) (base := w.heap.size) (ok := fun k_ => True) (n := t315.length) (c := co125) ?_).2.2; exact (by (with_reducible repeat (first | apply Kd.R_alloc | apply Kd.R_drewN | apply Kd.R_drew)); exact (Kd.R_mono (Kd.R_far (p := ⟨gb310, 1, none⟩) (Kd.R_far (p := ⟨gb310, 0, none⟩) (Kd.R_types HO317.out BK310.out (by decide)) (fun _ hk => hk.2) (.string t321)) (fun _ hk => hk.2) (.string t322)) (fun _ h_ => h_.1)))); (case side4 => exact (Kd.R_reads' HO317.out).2.1); (case side5 => refine (Kd.R_reads' (e := 65) (base := w.heap.size) (ok := fun k_ => True) (n := t318.length) (c := co126) ?_).2.2; exact (by (with_reducible repeat (first | apply Kd.R_alloc | apply Kd.R_drewN | apply Kd.R_drew)); exact (Kd.R_mono (Kd.R_far (p := ⟨gb310, 1, none⟩) (Kd.R_far (p := ⟨gb310, 0, none⟩) (Kd.R_types HO320.out BK310.out (by decide)) (fun _ hk => hk.2) (.string t321)) (fun _ hk => hk.2) (.string t322)) (fun _ h_ => h_.1)))); (case side6 => exact (Kd.R_reads' HO320.out).2.1); rintro e w135 ⟨v324, v327, v330, rfl, ho0, ho1, ho2, hb⟩; refine ⟨_, rfl, ?_⟩; have n0_ := Aside0.mk (Kd.R_elder' (by (with_reducible repeat (first | apply Kd.R_alloc | apply Kd.R_drewN | apply Kd.R_drew)); exact (Kd.R_mono (Kd.R_far (p := ⟨gb310, 1, none⟩) (Kd.R_far (p := ⟨gb310, 0, none⟩) (Kd.R_mono HO314.out (fun k_ hk => (⟨hk, hk⟩ : _ ∧ k_ ≠ gb310))) (fun _ hk => hk.2) (.string t321)) (fun _ hk => hk.2) (.string t322)) (fun _ h_ => h_.1))) (Kd.R_base ho0) hb); have n1_ := Aside0.mk (Kd.R_elder' (by (with_reducible repeat (first | apply Kd.R_alloc | apply Kd.R_drewN | apply Kd.R_drew)); exact (Kd.R_mono (Kd.R_far (p := ⟨gb310, 1, none⟩) (Kd.R_far (p := ⟨gb310, 0, none⟩) (Kd.R_types HO317.out BK310.out (by decide)) (fun _ hk => hk.2) (.string t321)) (fun _ hk => hk.2) (.string t322)) (fun _ h_ => h_.1))) (Kd.R_base ho1) hb); have n2_ := Aside0.mk (Kd.R_elder' (by (with_reducible repeat (first | apply Kd.R_alloc | apply Kd.R_drewN | apply Kd.R_drew)); exact (Kd.R_mono (Kd.R_far (p := ⟨gb310, 1, none⟩) (Kd.R_far (p := ⟨gb310, 0, none⟩) (Kd.R_types HO320.out BK310.out (by decide)) (fun _ hk => hk.2) (.string t321)) (fun _ hk => hk.2) (.string t322)) (fun _ h_ => h_.1))) (Kd.R_base ho2) hb); have n3_ := Aside0.mk (Kd.R_lower (Kd.R_newB (Kd.R_new' ho0 (Kd.R_lt (by (with_reducible repeat (first | apply Kd.R_alloc | apply Kd.R_drewN | apply Kd.R_drew)); exact (Kd.R_mono (Kd.R_far (p := ⟨gb310, 1, none⟩) (Kd.R_far (p := ⟨gb310, 0, none⟩) (Kd.R_mono HO314.out (fun k_ hk => (⟨hk, hk⟩ : _ ∧ k_ ≠ gb310))) (fun _ hk => hk.2) (.string t321)) (fun _ hk => hk.2) (.string t322)) (fun _ h_ => h_.1))))) (g := gb310) (o := .cells #[.string t321, .string t322] 39 (0, 0)) (by (with_reducible repeat (first | refine blk_drewN ?_ _ | refine blk_drew ?_ | refine blk_alloc ?_ _)); refine blk_put (cs := #[.string t321, .string a1_1]) ?_ 1 _ rfl; (with_reducible repeat (first | refine blk_drewN ?_ _ | refine blk_drew ?_ | refine blk_alloc ?_ _)); refine blk_put (cs := #[.string a1_0, .string a1_1]) ?_ 0 _ rfl; (with_reducible repeat (first | refine blk_drewN ?_ _ | refine blk_drew ?_ | refine blk_alloc ?_ _)); exact BK310.out)) (below_size (by repeat (first | (with_reducible first | exact HB.out | apply below_alloc | apply pw_below_drewN | apply below_drew1 | refine below_set ?_ GE309.out | refine below_set ?_ GE310.out) | exact HB.out)))); have n4_ := Aside0.mk (Kd.R_lower (Kd.R_new' ho1 (Kd.R_lt (by (with_reducible repeat (first | apply Kd.R_alloc | apply Kd.R_drewN | apply Kd.R_drew)); exact (Kd.R_mono (Kd.R_far (p := ⟨gb310, 1, none⟩) (Kd.R_far (p := ⟨gb310, 0, none⟩) (Kd.R_types HO317.out BK310.out (by decide)) (fun _ hk => hk.2) (.string t321)) (fun _ hk => hk.2) (.string t322)) (fun _ h_ => h_.1))))) (below_size (by repeat (first | (with_reducible first | exact HB.out | apply below_alloc | apply pw_below_drewN | apply below_drew1 | refine below_set ?_ GE309.out | refine below_set ?_ GE310.out) | exact HB.out)))); have n5_ := Aside0.mk (Kd.R_lower (Kd.R_new' ho2 (Kd.R_lt (by (with_reducible repeat (first | apply Kd.R_alloc | apply Kd.R_drewN | apply Kd.R_drew)); exact (Kd.R_mono (Kd.R_far (p := ⟨gb310, 1, none⟩) (Kd.R_far (p := ⟨gb310, 0, none⟩) (Kd.R_types HO320.out BK310.out (by decide)) (fun _ hk => hk.2) (.string t321)) (fun _ hk => hk.2) (.string t322)) (fun _ h_ => h_.1))))) (below_size (by repeat (first | (with_reducible first | exact HB.out | apply below_alloc | apply pw_below_drewN | apply below_drew1 | refine below_set ?_ GE309.out | refine below_set ?_ GE310.out) | exact HB.out)))); have n6_ := Aside0.mk (blk_below (g := gb309) (o := .cells #[.slice Ao123 t312.length co123, .slice Ao125 t315.length co125, .slice Ao126 t318.length co126] 26 (0, 0)) (by (with_reducible repeat (first | refine blk_drewN ?_ _ | refine blk_drew ?_ | refine blk_alloc ?_ _)); refine blk_far ?_ NB309_310.out _; (with_reducible repeat (first | refine blk_drewN ?_ _ | refine blk_drew ?_ | refine blk_alloc ?_ _)); refine blk_far ?_ NB309_310.out _; (with_reducible repeat (first | refine blk_drewN ?_ _ | refine blk_drew ?_ | refine blk_alloc ?_ _)); exact BK309.out) hb); have n7_ := Aside0.mk (blk_below (g := gb310) (o := .cells #[.string t321, .string t322] 39 (0, 0)) (by (with_reducible repeat (first | refine blk_drewN ?_ _ | refine blk_drew ?_ | refine blk_alloc ?_ _)); refine blk_put (cs := #[.string t321, .string a1_1]) ?_ 1 _ rfl; (with_reducible repeat (first | refine blk_drewN ?_ _ | refine blk_drew ?_ | refine blk_alloc ?_ _)); refine blk_put (cs := #[.string a1_0, .string a1_1]) ?_ 0 _ rfl; (with_reducible repeat (first | refine blk_drewN ?_ _ | refine blk_drew ?_ | refine blk_alloc ?_ _)); exact BK310.out) hb); have n8_ := Aside0.mk (below_step (by repeat (first | (with_reducible first | exact HB.out | apply below_alloc | apply pw_below_drewN | apply below_drew1 | refine below_set ?_ GE309.out | refine below_set ?_ GE310.out) | exact HB.out)) hb); clear HO314; clear HO317; clear HO320; clear BK309; clear BK310; clear HB; have HO314 := n0_; have HO317 := n1_; have HO320 := n2_; have HO325 := n3_; have HO328 := n4_; have HO331 := n5_; have BK309 := n6_; have BK310 := n7_; have HB := n8_; clear n0_ n1_ n2_ n3_ n4_ n5_ n6_ n7_ n8_; (try clear hb); (try clear hb2); (try clear hk); (try clear hi); (try clear ho0); (try clear ho1); (try clear ho2)) | ((with_reducible refine gate_dst (N := 6) rfl ?_); (try (refine gate_guard (by rfl) ?_; dsimp only)); refine box_event ?hg (N := 6) ?hd (cs := #[.slice none 0 0, .slice none 0 0, .slice none 0 0]) (t := 26) ?hr ?_; (case hd => rfl); (case hg => rfl); (case hr => first | (go_simp; done) | (go_simp; rfl)); intro gb333 hg w136 hbox hb; have n0_ := Aside0.mk (Kd.R_below (by (with_reducible repeat (first | apply Kd.R_alloc | apply Kd.R_drewN | apply Kd.R_drew)); exact HO314.out) hb); have n1_ := Aside0.mk (Kd.R_below (by (with_reducible repeat (first | apply Kd.R_alloc | apply Kd.R_drewN | apply Kd.R_drew)); exact HO317.out) hb); have n2_ := Aside0.mk (Kd.R_below (by (with_reducible repeat (first | apply Kd.R_alloc | apply Kd.R_drewN | apply Kd.R_drew)); exact HO320.out) hb); have n3_ := Aside0.mk (Kd.R_below (by (with_reducible repeat (first | apply Kd.R_alloc | apply Kd.R_drewN | apply Kd.R_drew)); exact HO325.out) hb); have n4_ := Aside0.mk (Kd.R_below (by (with_reducible repeat (first | apply Kd.R_alloc | apply Kd.R_drewN | apply Kd.R_drew)); exact HO328.out) hb); have n5_ := Aside0.mk (Kd.R_below (by (with_reducible repeat (first | apply Kd.R_alloc | apply Kd.R_drewN | apply Kd.R_drew)); exact HO331.out) hb); have n6_ := Aside0.mk (blk_below (g := gb309) (o := .cells #[.slice Ao123 t312.length co123, .slice Ao125 t315.length co125, .slice Ao126 t318.length co126] 26 (0, 0)) (by (with_reducible repeat (first | refine blk_drewN ?_ _ | refine blk_drew ?_ | refine blk_alloc ?_ _)); exact BK309.out) hb); have n7_ := Aside0.mk (blk_below (g := gb310) (o := .cells #[.string t321, .string t322] 39 (0, 0)) (by (with_reducible repeat (first | refine blk_drewN ?_ _ | refine blk_drew ?_ | refine blk_alloc ?_ _)); exact BK310.out) hb); have n8_ := Aside0.mk (below_step (by repeat (first | (with_reducible first | exact HB.out | apply below_alloc | apply pw_below_drewN | apply below_drew1 | refine below_set ?_ GE309.out | refine below_set ?_ GE310.out) | exact HB.out)) hb); have n9_ := Aside0.mk (hbox); have n10_ := Aside0.mk ((by rw [hg]; exact (below_size (by repeat (first | (with_reducible first | exact HB.out | apply below_alloc | apply pw_below_drewN | apply below_drew1 | refine below_set ?_ GE309.out | refine below_set ?_ GE310.out) | exact HB.out))) : w.heap.size ≤ gb333)); have n11_ := Aside0.mk ((by rw [hg]; exact (below_size (by repeat (first | (with_reducible first | exact HB.out | apply below_alloc | apply pw_below_drewN | apply below_drew1 | refine below_set ?_ GE309.out | refine below_set ?_ GE310.out) | exact HB.out))) : w.heap.size ≤ gb333)); have n12_ := Aside0.mk ((by rw [hg]; exact Nat.ne_of_lt (blk_lt (g := gb309) (o := .cells #[.slice Ao123 t312.length co123, .slice Ao125 t315.length co125, .slice Ao126 t318.length co126] 26 (0, 0)) (by (with_reducible repeat (first | refine blk_drewN ?_ _ | refine blk_drew ?_ | refine blk_alloc ?_ _)); exact BK309.out)) : gb309 ≠ gb333)); have n13_ := Aside0.mk ((by rw [hg]; exact Nat.ne_of_gt (blk_lt (g := gb309) (o := .cells #[.slice Ao123 t312.length co123, .slice Ao125 t315.length co125, .slice Ao126 t318.length co126] 26 (0, 0)) (by (with_reducible repeat (first | refine blk_drewN ?_ _ | refine blk_drew ?_ | refine blk_alloc ?_ _)); exact BK309.out)) : gb333 ≠ gb309)); have n14_ := Aside0.mk ((by rw [hg]; exact Nat.ne_of_lt (blk_lt (g := gb310) (o := .cells #[.string t321, .string t322] 39 (0, 0)) (by (with_reducible repeat (first | refine blk_drewN ?_ _ | refine blk_drew ?_ | refine blk_alloc ?_ _)); exact BK310.out)) : gb310 ≠ gb333)); have n15_ := Aside0.mk ((by rw [hg]; exact Nat.ne_of_gt (blk_lt (g := gb310) (o := .cells #[.string t321, .string t322] 39 (0, 0)) (by (with_reducible repeat (first | refine blk_drewN ?_ _ | refine blk_drew ?_ | refine blk_alloc ?_ _)); exact BK310.out)) : gb333 ≠ gb310)); clear HO314; clear HO317; clear HO320; clear HO325; clear HO328; clear HO331; clear BK309; clear BK310; clear HB; have HO314 := n0_; have HO317 := n1_; have HO320 := n2_; have HO325 := n3_; have HO328 := n4_; have HO331 := n5_; have BK309 := n6_; have BK310 := n7_; have HB := n8_; have BK333 := n9_; have GW333 := n10_; have GE333 := n11_; have NB309_333 := n12_; have NB333_309 := n13_; have NB310_333 := n14_; have NB333_310 := n15_; clear n0_ n1_ n2_ n3_ n4_ n5_ n6_ n7_ n8_ n9_ n10_ n11_ n12_ n13_ n14_ n15_; clear hb hbox hg; obtain ⟨Ao137, co137, eo137⟩ := Kd.R_slice HO325.out; subst eo137; have hnb138 := NB333_309.out; have hnc138 := NB309_333.out; have hnb139 := NB333_310.out; have hnc139 := NB310_333.out; have hcz140_0 : w136.cell? ⟨gb333, 0, none⟩ = some (.slice none 0 0) := (blk_cell BK333.out 0).trans rfl; have hcz140_1 : w136.cell? ⟨gb333, 1, none⟩ = some (.slice none 0 0) := (blk_cell BK333.out 1).trans rfl; have hcz140_2 : w136.cell? ⟨gb333, 2, none⟩ = some (.slice none 0 0) := (blk_cell BK333.out 2).trans rfl; have hfz140_0 := blk_frozen BK333.out 0; have hfz140_1 := blk_frozen BK333.out 1; have hfz140_2 := blk_frozen BK333.out 2; obtain ⟨Ao141, co141, eo141⟩ := Kd.R_slice HO328.out; subst eo141; obtain ⟨Ao142, co142, eo142⟩ := Kd.R_slice HO331.out; subst eo142))
    go_ret
    exact ⟨by first | rfl | (simp [errW_none, errW_some] <;> rfl) | (simp [errW_none, errW_some]; exact ⟨rfl, rfl, rfl⟩) | (simp [*, errW_none, errW_some] <;> rfl), by repeat (first | (with_reducible first | exact HB.out | apply below_alloc | apply pw_below_drewN | apply below_drew1 | refine below_set ?_ GE309.out | refine below_set ?_ GE310.out | refine below_set ?_ GE333.out) | exact HB.out)⟩
  rw [if_pos c8] at H
  have c8b0 : (t332 == 0) = true := beq_iff_eq.mpr c8
  have c8b1 : (t332 != 0) = false := bne_eq_false_iff_eq.mpr c8
  clear c8
  replace H := Option.bind_eq_some_iff.mp H
  obtain ⟨t334, A90, H⟩ := H
  replace H : ((node_Delete.f t323 t326 t329 t321).bind fun bt335 => ((node_Delete.f t312 t315 t318 t321).bind fun bt347 => (if t334 < 0 then (bazaarlaw06_NodeFinds.j0 k t311 t334 bt335.2.2.2.1 bt335.2.2.2.2 bt347.2.2.2.1 bt347.2.2.2.2 true t312 t315 t318 t321 t322 t323 t326 t329 bt335.1 bt335.2.1 bt335.2.2.1 bt347.1 bt347.2.1 bt347.2.2.1) else (if t334 ≥ (t323.length : Int) then (bazaarlaw06_NodeFinds.j0 k t311 t334 bt335.2.2.2.1 bt335.2.2.2.2 bt347.2.2.2.1 bt347.2.2.2.2 true t312 t315 t318 t321 t322 t323 t326 t329 bt335.1 bt335.2.1 bt335.2.2.1 bt347.1 bt347.2.1 bt347.2.2.1) else ((node_Right.f k t323 t326 t329).bind fun t359 => (bazaarlaw06_NodeFinds.j0 k t311 t334 bt335.2.2.2.1 bt335.2.2.2.2 bt347.2.2.2.1 bt347.2.2.2.2 (!t359) t312 t315 t318 t321 t322 t323 t326 t329 bt335.1 bt335.2.1 bt335.2.2.1 bt347.1 bt347.2.1 bt347.2.2.1)))))) = some r := H
  have A9 := Aside0.mk A90
  clear A90
  replace H := Option.bind_eq_some_iff.mp H
  obtain ⟨⟨t335, t338, t341, t344, t345⟩, A100, H⟩ := H
  replace H : ((node_Delete.f t312 t315 t318 t321).bind fun bt347 => (if t334 < 0 then (bazaarlaw06_NodeFinds.j0 k t311 t334 t344 t345 bt347.2.2.2.1 bt347.2.2.2.2 true t312 t315 t318 t321 t322 t323 t326 t329 t335 t338 t341 bt347.1 bt347.2.1 bt347.2.2.1) else (if t334 ≥ (t323.length : Int) then (bazaarlaw06_NodeFinds.j0 k t311 t334 t344 t345 bt347.2.2.2.1 bt347.2.2.2.2 true t312 t315 t318 t321 t322 t323 t326 t329 t335 t338 t341 bt347.1 bt347.2.1 bt347.2.2.1) else ((node_Right.f k t323 t326 t329).bind fun t359 => (bazaarlaw06_NodeFinds.j0 k t311 t334 t344 t345 bt347.2.2.2.1 bt347.2.2.2.2 (!t359) t312 t315 t318 t321 t322 t323 t326 t329 t335 t338 t341 bt347.1 bt347.2.1 bt347.2.2.1))))) = some r := H
  have A10 := Aside0.mk A100
  clear A100
  replace H := Option.bind_eq_some_iff.mp H
  obtain ⟨⟨t347, t350, t353, t356, t357⟩, A110, H⟩ := H
  replace H : (if t334 < 0 then (bazaarlaw06_NodeFinds.j0 k t311 t334 t344 t345 t356 t357 true t312 t315 t318 t321 t322 t323 t326 t329 t335 t338 t341 t347 t350 t353) else (if t334 ≥ (t323.length : Int) then (bazaarlaw06_NodeFinds.j0 k t311 t334 t344 t345 t356 t357 true t312 t315 t318 t321 t322 t323 t326 t329 t335 t338 t341 t347 t350 t353) else ((node_Right.f k t323 t326 t329).bind fun t359 => (bazaarlaw06_NodeFinds.j0 k t311 t334 t344 t345 t356 t357 (!t359) t312 t315 t318 t321 t322 t323 t326 t329 t335 t338 t341 t347 t350 t353)))) = some r := H
  have A11 := Aside0.mk A110
  clear A110
  have HC12 := Aside0.mk H
  clear H
  go_enter Try.func7, Try.ntmps7
  try go_wp2_with (first | ((with_reducible refine gate_dst (N := 2) rfl ?_); (try (refine gate_guard (by rfl) ?_; dsimp only)); refine box_event ?hg (N := 2) ?hd (cs := #[.slice A0_0 l0_0.length c0_0, .slice A0_1 l0_1.length c0_1, .slice A0_2 l0_2.length c0_2]) (t := 26) ?hr ?_; (case hd => rfl); (case hg => rfl); (case hr => first | (go_simp; done) | (go_simp; rfl)); intro gb309 hg w13 hbox hb; have n0_ := Aside0.mk (below_step (by repeat (first | (with_reducible first | exact HB.out | apply below_alloc | apply pw_below_drewN | apply below_drew1) | exact HB.out)) hb); have n1_ := Aside0.mk (hbox); have n2_ := Aside0.mk ((by rw [hg]; exact (below_size (by repeat (first | (with_reducible first | exact HB.out | apply below_alloc | apply pw_below_drewN | apply below_drew1) | exact HB.out))) : w.heap.size ≤ gb309)); have n3_ := Aside0.mk ((by rw [hg]; exact (below_size (by repeat (first | (with_reducible first | exact HB.out | apply below_alloc | apply pw_below_drewN | apply below_drew1) | exact HB.out))) : w.heap.size ≤ gb309)); clear HB; have HB := n0_; have BK309 := n1_; have GW309 := n2_; have GE309 := n3_; clear n0_ n1_ n2_ n3_; clear hb hbox hg) | ((with_reducible refine gate_dst (N := 3) rfl ?_); (try (refine gate_guard (by rfl) ?_; dsimp only)); refine box_event ?hg (N := 3) ?hd (cs := #[.string a1_0, .string a1_1]) (t := 39) ?hr ?_; (case hd => rfl); (case hg => rfl); (case hr => first | (go_simp; done) | (go_simp; rfl)); intro gb310 hg w14 hbox hb; have n0_ := Aside0.mk (blk_below (g := gb309) (o := .cells #[.slice A0_0 l0_0.length c0_0, .slice A0_1 l0_1.length c0_1, .slice A0_2 l0_2.length c0_2] 26 (0, 0)) (by (with_reducible repeat (first | refine blk_drewN ?_ _ | refine blk_drew ?_ | refine blk_alloc ?_ _)); exact BK309.out) hb); have n1_ := Aside0.mk (below_step (by repeat (first | (with_reducible first | exact HB.out | apply below_alloc | apply pw_below_drewN | apply below_drew1 | refine below_set ?_ GE309.out) | exact HB.out)) hb); have n2_ := Aside0.mk (hbox); have n3_ := Aside0.mk ((by rw [hg]; exact (below_size (by repeat (first | (with_reducible first | exact HB.out | apply below_alloc | apply pw_below_drewN | apply below_drew1 | refine below_set ?_ GE309.out) | exact HB.out))) : w.heap.size ≤ gb310)); have n4_ := Aside0.mk ((by rw [hg]; exact (below_size (by repeat (first | (with_reducible first | exact HB.out | apply below_alloc | apply pw_below_drewN | apply below_drew1 | refine below_set ?_ GE309.out) | exact HB.out))) : w.heap.size ≤ gb310)); have n5_ := Aside0.mk ((by rw [hg]; exact Nat.ne_of_lt (blk_lt (g := gb309) (o := .cells #[.slice A0_0 l0_0.length c0_0, .slice A0_1 l0_1.length c0_1, .slice A0_2 l0_2.length c0_2] 26 (0, 0)) (by (with_reducible repeat (first | refine blk_drewN ?_ _ | refine blk_drew ?_ | refine blk_alloc ?_ _)); exact BK309.out)) : gb309 ≠ gb310)); have n6_ := Aside0.mk ((by rw [hg]; exact Nat.ne_of_gt (blk_lt (g := gb309) (o := .cells #[.slice A0_0 l0_0.length c0_0, .slice A0_1 l0_1.length c0_1, .slice A0_2 l0_2.length c0_2] 26 (0, 0)) (by (with_reducible repeat (first | refine blk_drewN ?_ _ | refine blk_drew ?_ | refine blk_alloc ?_ _)); exact BK309.out)) : gb310 ≠ gb309)); clear BK309; clear HB; have BK309 := n0_; have HB := n1_; have BK310 := n2_; have GW310 := n3_; have GE310 := n4_; have NB309_310 := n5_; have NB310_309 := n6_; clear n0_ n1_ n2_ n3_ n4_ n5_ n6_; clear hb hbox hg) | ((with_reducible refine gate_callee (f := 10) rfl ?_); refine goesL_ (some 16) rfl rfl Try.func10 (by kernel_rfl) rfl #[] rfl (by (try simp only [List.map_toArray, List.map_cons, List.map_nil]); first | done | rfl | (simp only [List.length_drop, List.length_take]; rfl)) ?_; (with_reducible refine (bazaarlaw06_shown.calls  t311 _ A3.out).mono ?_); rintro e w15 ⟨rfl, hb⟩; refine ⟨_, rfl, ?_⟩; have n0_ := Aside0.mk (blk_below (g := gb309) (o := .cells #[.slice A0_0 l0_0.length c0_0, .slice A0_1 l0_1.length c0_1, .slice A0_2 l0_2.length c0_2] 26 (0, 0)) (by (with_reducible repeat (first | refine blk_drewN ?_ _ | refine blk_drew ?_ | refine blk_alloc ?_ _)); exact BK309.out) hb); have n1_ := Aside0.mk (blk_below (g := gb310) (o := .cells #[.string a1_0, .string a1_1] 39 (0, 0)) (by (with_reducible repeat (first | refine blk_drewN ?_ _ | refine blk_drew ?_ | refine blk_alloc ?_ _)); exact BK310.out) hb); have n2_ := Aside0.mk (below_step (by repeat (first | (with_reducible first | exact HB.out | apply below_alloc | apply pw_below_drewN | apply below_drew1 | refine below_set ?_ GE309.out | refine below_set ?_ GE310.out) | exact HB.out)) hb); clear BK309; clear BK310; clear HB; have BK309 := n0_; have BK310 := n1_; have HB := n2_; clear n0_ n1_ n2_; (try clear hb); (try clear hb2); (try clear hk); (try clear hi); have hnb16 := NB309_310.out; have hnc16 := NB310_309.out; have hcz17_0 : w15.cell? ⟨gb309, 0, none⟩ = some (.slice A0_0 l0_0.length c0_0) := (blk_cell BK309.out 0).trans rfl; have hcz17_1 : w15.cell? ⟨gb309, 1, none⟩ = some (.slice A0_1 l0_1.length c0_1) := (blk_cell BK309.out 1).trans rfl; have hcz17_2 : w15.cell? ⟨gb309, 2, none⟩ = some (.slice A0_2 l0_2.length c0_2) := (blk_cell BK309.out 2).trans rfl; have hfz17_0 := blk_frozen BK309.out 0; have hfz17_1 := blk_frozen BK309.out 1; have hfz17_2 := blk_frozen BK309.out 2) | ((with_reducible refine gate_callee (f := 11) rfl ?_); refine goesL_ (some 18) rfl rfl Try.func11 (by kernel_rfl) rfl #[.agg #[.slice A0_0 l0_0.length c0_0, .slice A0_1 l0_1.length c0_1, .slice A0_2 l0_2.length c0_2]] rfl (by (try simp only [List.map_toArray, List.map_cons, List.map_nil]); first | done | rfl | (simp only [List.length_drop, List.length_take]; rfl)) ?_; (with_reducible refine (bazaarlaw06_cut.calls k _ _ l0_0 _ _ l0_1 _ _ l0_2 t312 t315 t318 _ ?side1 ?side2 ?side3 ?side4 ?side5 ?side6 A4.out).mono ?_); (case side1 => repeat (first | exact (Kd.C_below HR0_0.out HB.out) | (with_reducible refine Kd.C_alloc ?_ _) | (with_reducible refine Kd.C_drewN ?_ _) | (with_reducible refine Kd.C_drew ?_))); (case side2 => exact HC0_0.out); (case side3 => repeat (first | exact (Kd.C_below HR0_1.out HB.out) | (with_reducible refine Kd.C_alloc ?_ _) | (with_reducible refine Kd.C_drewN ?_ _) | (with_reducible refine Kd.C_drew ?_))); (case side4 => exact HC0_1.out); (case side5 => repeat (first | exact (Kd.C_below HR0_2.out HB.out) | (with_reducible refine Kd.C_alloc ?_ _) | (with_reducible refine Kd.C_drewN ?_ _) | (with_reducible refine Kd.C_drew ?_))); (case side6 => exact HC0_2.out); rintro e w18 ⟨v313, v316, v319, rfl, ho0, ho1, ho2, hb⟩; refine ⟨_, rfl, ?_⟩; have n0_ := Aside0.mk (Kd.R_lower (Kd.R_newB ho0 (g := gb310) (o := .cells #[.string a1_0, .string a1_1] 39 (0, 0)) (by (with_reducible repeat (first | refine blk_drewN ?_ _ | refine blk_drew ?_ | refine blk_alloc ?_ _)); exact BK310.out)) (below_size (by repeat (first | (with_reducible first | exact HB.out | apply below_alloc | apply pw_below_drewN | apply below_drew1 | refine below_set ?_ GE309.out | refine below_set ?_ GE310.out) | exact HB.out)))); have n1_ := Aside0.mk (Kd.R_lower ho1 (below_size (by repeat (first | (with_reducible first | exact HB.out | apply below_alloc | apply pw_below_drewN | apply below_drew1 | refine below_set ?_ GE309.out | refine below_set ?_ GE310.out) | exact HB.out)))); have n2_ := Aside0.mk (Kd.R_lower ho2 (below_size (by repeat (first | (with_reducible first | exact HB.out | apply below_alloc | apply pw_below_drewN | apply below_drew1 | refine below_set ?_ GE309.out | refine below_set ?_ GE310.out) | exact HB.out)))); have n3_ := Aside0.mk (blk_below (g := gb309) (o := .cells #[.slice A0_0 l0_0.length c0_0, .slice A0_1 l0_1.length c0_1, .slice A0_2 l0_2.length c0_2] 26 (0, 0)) (by (with_reducible repeat (first | refine blk_drewN ?_ _ | refine blk_drew ?_ | refine blk_alloc ?_ _)); exact BK309.out) hb); have n4_ := Aside0.mk (blk_below (g := gb310) (o := .cells #[.string a1_0, .string a1_1] 39 (0, 0)) (by (with_reducible repeat (first | refine blk_drewN ?_ _ | refine blk_drew ?_ | refine blk_alloc ?_ _)); exact BK310.out) hb); have n5_ := Aside0.mk (below_step (by repeat (first | (with_reducible first | exact HB.out | apply below_alloc | apply pw_below_drewN | apply below_drew1 | refine below_set ?_ GE309.out | refine below_set ?_ GE310.out) | exact HB.out)) hb); clear BK309; clear BK310; clear HB; have HO314 := n0_; have HO317 := n1_; have HO320 := n2_; have BK309 := n3_; have BK310 := n4_; have HB := n5_; clear n0_ n1_ n2_ n3_ n4_ n5_; (try clear hb); (try clear hb2); (try clear hk); (try clear hi); (try clear ho0); (try clear ho1); (try clear ho2); obtain ⟨Ao19, co19, eo19⟩ := Kd.R_slice HO314.out; subst eo19; have hcz20_0 : w18.cell? ⟨gb309, 0, none⟩ = some (.slice A0_0 l0_0.length c0_0) := (blk_cell BK309.out 0).trans rfl; have hcz20_1 : w18.cell? ⟨gb309, 1, none⟩ = some (.slice A0_1 l0_1.length c0_1) := (blk_cell BK309.out 1).trans rfl; have hcz20_2 : w18.cell? ⟨gb309, 2, none⟩ = some (.slice A0_2 l0_2.length c0_2) := (blk_cell BK309.out 2).trans rfl; have hfz20_0 := blk_frozen BK309.out 0; have hfz20_1 := blk_frozen BK309.out 1; have hfz20_2 := blk_frozen BK309.out 2; obtain ⟨Ao21, co21, eo21⟩ := Kd.R_slice HO317.out; subst eo21; obtain ⟨Ao22, co22, eo22⟩ := Kd.R_slice HO320.out; subst eo22))
  have n0_ : Aside0 (Kd.R k39 39 (((w18.setCell ⟨gb309, 0, none⟩ (.slice Ao19 t312.length co19)).setCell ⟨gb309, 1, none⟩ (.slice Ao21 t315.length co21)).setCell ⟨gb309, 2, none⟩ (.slice Ao22 t318.length co22)) w.heap.size (fun k_ => k_ ≠ gb310) (.slice Ao19 t312.length co19) t312) := ⟨by (with_reducible repeat (first | apply Kd.R_alloc | apply Kd.R_drewN | apply Kd.R_drew)); exact Kd.R_mono (Kd.R_far (p := ⟨gb309, 2, none⟩) (Kd.R_far (p := ⟨gb309, 1, none⟩) (Kd.R_far (p := ⟨gb309, 0, none⟩) (Kd.R_types HO314.out BK309.out (by decide)) (fun _ hk => hk.2) (.slice Ao19 t312.length co19)) (fun _ hk => hk.2) (.slice Ao21 t315.length co21)) (fun _ hk => hk.2) (.slice Ao22 t318.length co22)) (fun _ hk => hk.1.2)⟩
  have n1_ : Aside0 (Kd.R Kd.string 9 (((w18.setCell ⟨gb309, 0, none⟩ (.slice Ao19 t312.length co19)).setCell ⟨gb309, 1, none⟩ (.slice Ao21 t315.length co21)).setCell ⟨gb309, 2, none⟩ (.slice Ao22 t318.length co22)) w.heap.size (fun _ => True) (.slice Ao21 t315.length co21) t315) := ⟨by (with_reducible repeat (first | apply Kd.R_alloc | apply Kd.R_drewN | apply Kd.R_drew)); exact Kd.R_mono (Kd.R_far (p := ⟨gb309, 2, none⟩) (Kd.R_far (p := ⟨gb309, 1, none⟩) (Kd.R_far (p := ⟨gb309, 0, none⟩) (Kd.R_types HO317.out BK309.out (by decide)) (fun _ hk => hk.2) (.slice Ao19 t312.length co19)) (fun _ hk => hk.2) (.slice Ao21 t315.length co21)) (fun _ hk => hk.2) (.slice Ao22 t318.length co22)) (fun _ hk => trivial)⟩
  have n2_ : Aside0 (Kd.R (Kd.int .u32) 65 (((w18.setCell ⟨gb309, 0, none⟩ (.slice Ao19 t312.length co19)).setCell ⟨gb309, 1, none⟩ (.slice Ao21 t315.length co21)).setCell ⟨gb309, 2, none⟩ (.slice Ao22 t318.length co22)) w.heap.size (fun _ => True) (.slice Ao22 t318.length co22) t318) := ⟨by (with_reducible repeat (first | apply Kd.R_alloc | apply Kd.R_drewN | apply Kd.R_drew)); exact Kd.R_mono (Kd.R_far (p := ⟨gb309, 2, none⟩) (Kd.R_far (p := ⟨gb309, 1, none⟩) (Kd.R_far (p := ⟨gb309, 0, none⟩) (Kd.R_types HO320.out BK309.out (by decide)) (fun _ hk => hk.2) (.slice Ao19 t312.length co19)) (fun _ hk => hk.2) (.slice Ao21 t315.length co21)) (fun _ hk => hk.2) (.slice Ao22 t318.length co22)) (fun _ hk => trivial)⟩
  have n3_ : Aside0 ((((w18.setCell ⟨gb309, 0, none⟩ (.slice Ao19 t312.length co19)).setCell ⟨gb309, 1, none⟩ (.slice Ao21 t315.length co21)).setCell ⟨gb309, 2, none⟩ (.slice Ao22 t318.length co22)).heap[gb309]? = some (.cells #[.slice Ao19 t312.length co19, .slice Ao21 t315.length co21, .slice Ao22 t318.length co22] 26 (0, 0))) := ⟨by (with_reducible repeat (first | refine blk_drewN ?_ _ | refine blk_drew ?_ | refine blk_alloc ?_ _)); refine blk_put (cs := #[.slice Ao19 t312.length co19, .slice Ao21 t315.length co21, .slice A0_2 l0_2.length c0_2]) ?_ 2 _ rfl; (with_reducible repeat (first | refine blk_drewN ?_ _ | refine blk_drew ?_ | refine blk_alloc ?_ _)); refine blk_put (cs := #[.slice Ao19 t312.length co19, .slice A0_1 l0_1.length c0_1, .slice A0_2 l0_2.length c0_2]) ?_ 1 _ rfl; (with_reducible repeat (first | refine blk_drewN ?_ _ | refine blk_drew ?_ | refine blk_alloc ?_ _)); refine blk_put (cs := #[.slice A0_0 l0_0.length c0_0, .slice A0_1 l0_1.length c0_1, .slice A0_2 l0_2.length c0_2]) ?_ 0 _ rfl; (with_reducible repeat (first | refine blk_drewN ?_ _ | refine blk_drew ?_ | refine blk_alloc ?_ _)); exact BK309.out⟩
  have n4_ : Aside0 ((((w18.setCell ⟨gb309, 0, none⟩ (.slice Ao19 t312.length co19)).setCell ⟨gb309, 1, none⟩ (.slice Ao21 t315.length co21)).setCell ⟨gb309, 2, none⟩ (.slice Ao22 t318.length co22)).heap[gb310]? = some (.cells #[.string a1_0, .string a1_1] 39 (0, 0))) := ⟨by (with_reducible repeat (first | refine blk_drewN ?_ _ | refine blk_drew ?_ | refine blk_alloc ?_ _)); refine blk_far ?_ NB310_309.out _; (with_reducible repeat (first | refine blk_drewN ?_ _ | refine blk_drew ?_ | refine blk_alloc ?_ _)); refine blk_far ?_ NB310_309.out _; (with_reducible repeat (first | refine blk_drewN ?_ _ | refine blk_drew ?_ | refine blk_alloc ?_ _)); refine blk_far ?_ NB310_309.out _; (with_reducible repeat (first | refine blk_drewN ?_ _ | refine blk_drew ?_ | refine blk_alloc ?_ _)); exact BK310.out⟩
  have n5_ : Aside0 (Below w.heap.size w (((w18.setCell ⟨gb309, 0, none⟩ (.slice Ao19 t312.length co19)).setCell ⟨gb309, 1, none⟩ (.slice Ao21 t315.length co21)).setCell ⟨gb309, 2, none⟩ (.slice Ao22 t318.length co22))) := ⟨by repeat (first | (with_reducible first | exact HB.out | apply below_alloc | apply pw_below_drewN | apply below_drew1 | refine below_set ?_ GE309.out | refine below_set ?_ GE310.out) | exact HB.out)⟩
  (try clear HO314)
  (try clear HO317)
  (try clear HO320)
  (try clear BK309)
  (try clear BK310)
  (try clear HB)
  generalize (((w18.setCell ⟨gb309, 0, none⟩ (.slice Ao19 t312.length co19)).setCell ⟨gb309, 1, none⟩ (.slice Ao21 t315.length co21)).setCell ⟨gb309, 2, none⟩ (.slice Ao22 t318.length co22)) = w23 at n0_ n1_ n2_ n3_ n4_ n5_ ⊢
  have HO314 := n0_
  have HO317 := n1_
  have HO320 := n2_
  have BK309 := n3_
  have BK310 := n4_
  have HB := n5_
  clear n0_ n1_ n2_ n3_ n4_ n5_
  have n0_ := Aside0.mk (Kd.R_drew HO314.out)
  have n1_ := Aside0.mk (Kd.R_drew HO317.out)
  have n2_ := Aside0.mk (Kd.R_drew HO320.out)
  have n3_ := Aside0.mk (blk_drew BK309.out)
  have n4_ := Aside0.mk (blk_drew BK310.out)
  have n5_ := Aside0.mk (below_drew1 HB.out)
  clear HO314
  clear HO317
  clear HO320
  clear BK309
  clear BK310
  clear HB
  have HO314 := n0_
  have HO317 := n1_
  have HO320 := n2_
  have BK309 := n3_
  have BK310 := n4_
  have HB := n5_
  clear n0_ n1_ n2_ n3_ n4_ n5_
  refine start_ (n := 8) (S := fun w' => w'.cell? ⟨gb310, 0, none⟩ = some (.string a1_0) ∧ w'.cell? ⟨gb310, 1, none⟩ = some (.string a1_1)) (ds := [7]) #[false, false, false, false, false, false, false, false] (by kernel_rfl) rfl rfl ⟨(blk_cell BK310.out 0).trans rfl, (blk_cell BK310.out 1).trans rfl⟩ (fun hHeld => ?_); refine with_tabW bazaarlaw06_NodeFinds.tab3 bazaarlaw06_NodeFinds.bits3 (fun HT_ HW_ => ?_)
  generalize w23.drew = w24 at HO314 HO317 HO320 BK309 BK310 HB hHeld ⊢
  refine pure_ (i := 0) (N := some 19) (v := ?_) (a' := ?_) #[true, false, false, false, false, false, false, false] rfl rfl (any_of HT_.out (by kernel_rfl)) (fun _ _ _ h => h) (Or.inl ⟨by rfl, ?_⟩) ?_ ?_
  rotate_left
  · intro w'
    go_simp
    with_reducible rfl
  rotate_left
  · simp only [Act.put, List.setIfInBounds_toArray, List.set_cons_zero, List.set_cons_succ, i64_w, i32_w]
    rfl
  refine pure_ (i := 3) (N := some 22) (v := ?_) (a' := ?_) #[true, false, false, true, false, false, false, false] rfl rfl (any_of HT_.out (by kernel_rfl)) (fun _ _ _ h => h) (Or.inl ⟨by rfl, ?_⟩) ?_ ?_
  rotate_left
  · intro w'
    go_simp
    with_reducible rfl
  rotate_left
  · simp only [Act.put, List.setIfInBounds_toArray, List.set_cons_zero, List.set_cons_succ, i64_w, i32_w]
    rfl
  refine take_ (i := 1) (N := some 20) (v := ?_) (a' := ?_) #[true, true, false, true, false, false, false, false] rfl rfl (take_ofW HT_.out HW_.out (by kernel_rfl)) (fun _ _ _ h => h) (Or.inl ⟨by rfl, ?_⟩) hHeld ?_ ?_
  rotate_left
  · rintro w' ⟨s0, s1⟩
    go_simp
    with_reducible rfl
  rotate_left
  · simp only [Act.put, List.setIfInBounds_toArray, List.set_cons_zero, List.set_cons_succ, i64_w, i32_w]
    rfl
  refine take_ (i := 4) (N := some 23) (v := ?_) (a' := ?_) #[true, true, false, true, true, false, false, false] rfl rfl (take_ofW HT_.out HW_.out (by kernel_rfl)) (fun _ _ _ h => h) (Or.inl ⟨by rfl, ?_⟩) hHeld ?_ ?_
  rotate_left
  · rintro w' ⟨s0, s1⟩
    go_simp
    with_reducible rfl
  rotate_left
  · simp only [Act.put, List.setIfInBounds_toArray, List.set_cons_zero, List.set_cons_succ, i64_w, i32_w]
    rfl
  refine one_ (i := 2) (N := some 21) #[true, true, true, true, true, false, false, false] rfl rfl (one_of HT_.out (by kernel_rfl)) (by decide) (fun K hK => ?_)
  refine goes_ Try.func19 (by kernel_rfl) rfl #[.string a1_0] (by rfl) rfl rfl (by (try simp only [List.map_toArray, List.map_cons, List.map_nil]); first | done | rfl | (simp only [List.length_drop, List.length_take]; rfl)) ?_
  with_reducible refine (bazaarlaw06_text.calls a1_0 t321 _ A5.out).mono ?_
  rintro e w25 ⟨rfl, hb⟩
  refine ⟨_, rfl, ?_⟩
  have n0_ := Aside0.mk (Kd.R_below (by (with_reducible repeat (first | apply Kd.R_alloc | apply Kd.R_drewN | apply Kd.R_drew)); exact HO314.out) hb)
  have n1_ := Aside0.mk (Kd.R_below (by (with_reducible repeat (first | apply Kd.R_alloc | apply Kd.R_drewN | apply Kd.R_drew)); exact HO317.out) hb)
  have n2_ := Aside0.mk (Kd.R_below (by (with_reducible repeat (first | apply Kd.R_alloc | apply Kd.R_drewN | apply Kd.R_drew)); exact HO320.out) hb)
  have n3_ := Aside0.mk (blk_below (g := gb309) (o := .cells #[.slice Ao19 t312.length co19, .slice Ao21 t315.length co21, .slice Ao22 t318.length co22] 26 (0, 0)) (by (with_reducible repeat (first | refine blk_drewN ?_ _ | refine blk_drew ?_ | refine blk_alloc ?_ _)); exact BK309.out) hb)
  have n4_ := Aside0.mk (blk_below (g := gb310) (o := .cells #[.string a1_0, .string a1_1] 39 (0, 0)) (by (with_reducible repeat (first | refine blk_drewN ?_ _ | refine blk_drew ?_ | refine blk_alloc ?_ _)); exact BK310.out) hb)
  have n5_ := Aside0.mk (below_step (by repeat (first | (with_reducible first | exact HB.out | apply below_alloc | apply pw_below_drewN | apply below_drew1 | refine below_set ?_ GE309.out | refine below_set ?_ GE310.out) | exact HB.out)) hb)
  clear HO314
  clear HO317
  clear HO320
  clear BK309
  clear BK310
  clear HB
  have HO314 := n0_
  have HO317 := n1_
  have HO320 := n2_
  have BK309 := n3_
  have BK310 := n4_
  have HB := n5_
  clear n0_ n1_ n2_ n3_ n4_ n5_
  (try clear hb)
  (try clear hb2)
  (try clear hk)
  (try clear hi)
  refine hK.out _ _ ⟨(blk_cell BK310.out 0).trans rfl, (blk_cell BK310.out 1).trans rfl⟩ (fun hHeld => ?_)
  clear hK K
  refine norm_ (a' := ?_) ?_ ?_
  rotate_left
  · show Act.put _ (some 21) _ = _
    simp only [Act.put, List.setIfInBounds_toArray, List.set_cons_zero, List.set_cons_succ, i64_w, i32_w]
    rfl
  refine one_ (i := 5) (N := some 24) #[true, true, true, true, true, true, false, false] rfl rfl (one_of HT_.out (by kernel_rfl)) (by decide) (fun K hK => ?_)
  refine goes_ Try.func19 (by kernel_rfl) rfl #[.string a1_1] (by rfl) rfl rfl (by (try simp only [List.map_toArray, List.map_cons, List.map_nil]); first | done | rfl | (simp only [List.length_drop, List.length_take]; rfl)) ?_
  with_reducible refine (bazaarlaw06_text.calls a1_1 t322 _ A6.out).mono ?_
  rintro e w26 ⟨rfl, hb⟩
  refine ⟨_, rfl, ?_⟩
  have n0_ := Aside0.mk (Kd.R_below (by (with_reducible repeat (first | apply Kd.R_alloc | apply Kd.R_drewN | apply Kd.R_drew)); exact HO314.out) hb)
  have n1_ := Aside0.mk (Kd.R_below (by (with_reducible repeat (first | apply Kd.R_alloc | apply Kd.R_drewN | apply Kd.R_drew)); exact HO317.out) hb)
  have n2_ := Aside0.mk (Kd.R_below (by (with_reducible repeat (first | apply Kd.R_alloc | apply Kd.R_drewN | apply Kd.R_drew)); exact HO320.out) hb)
  have n3_ := Aside0.mk (blk_below (g := gb309) (o := .cells #[.slice Ao19 t312.length co19, .slice Ao21 t315.length co21, .slice Ao22 t318.length co22] 26 (0, 0)) (by (with_reducible repeat (first | refine blk_drewN ?_ _ | refine blk_drew ?_ | refine blk_alloc ?_ _)); exact BK309.out) hb)
  have n4_ := Aside0.mk (blk_below (g := gb310) (o := .cells #[.string a1_0, .string a1_1] 39 (0, 0)) (by (with_reducible repeat (first | refine blk_drewN ?_ _ | refine blk_drew ?_ | refine blk_alloc ?_ _)); exact BK310.out) hb)
  have n5_ := Aside0.mk (below_step (by repeat (first | (with_reducible first | exact HB.out | apply below_alloc | apply pw_below_drewN | apply below_drew1 | refine below_set ?_ GE309.out | refine below_set ?_ GE310.out) | exact HB.out)) hb)
  clear HO314
  clear HO317
  clear HO320
  clear BK309
  clear BK310
  clear HB
  have HO314 := n0_
  have HO317 := n1_
  have HO320 := n2_
  have BK309 := n3_
  have BK310 := n4_
  have HB := n5_
  clear n0_ n1_ n2_ n3_ n4_ n5_
  (try clear hb)
  (try clear hb2)
  (try clear hk)
  (try clear hi)
  refine hK.out _ _ ⟨(blk_cell BK310.out 0).trans rfl, (blk_cell BK310.out 1).trans rfl⟩ (fun hHeld => ?_)
  clear hK K
  refine norm_ (a' := ?_) ?_ ?_
  rotate_left
  · show Act.put _ (some 24) _ = _
    simp only [Act.put, List.setIfInBounds_toArray, List.set_cons_zero, List.set_cons_succ, i64_w, i32_w]
    rfl
  refine pure_ (i := 6) (N := some 25) (v := ?_) (a' := ?_) #[true, true, true, true, true, true, true, false] rfl rfl (any_of HT_.out (by kernel_rfl)) (fun _ _ _ h => h) (Or.inl ⟨by rfl, ?_⟩) ?_ ?_
  rotate_left
  · intro w'
    go_simp
    with_reducible rfl
  rotate_left
  · simp only [Act.put, List.setIfInBounds_toArray, List.set_cons_zero, List.set_cons_succ, i64_w, i32_w]
    rfl
  refine last_ (i := 7) (N := none) #[true, true, true, true, true, true, true, true] rfl rfl (one_of HT_.out (by kernel_rfl)) (by decide) (fun K hK => ?_)
  have hs27 : w26.cell? ⟨gb310, 0, none⟩ = some (.string a1_0) := (blk_cell BK310.out 0).trans rfl
  have hfs27 := blk_frozen BK310.out 0
  have hns27_0 := NB309_310.out
  have hms27_0 := NB310_309.out
  have hs28 : w26.cell? ⟨gb310, 1, none⟩ = some (.string a1_1) := (blk_cell BK310.out 1).trans rfl
  have hfs28 := blk_frozen BK310.out 1
  have hns28_0 := NB309_310.out
  have hms28_0 := NB310_309.out
  refine skip_ (w1 := ?_) (by rfl) rfl ?_ ?_
  rotate_left
  · go_simp
    rfl
  refine hK.out _ _ ?_
  clear hK K
  refine done_ (done_of HT_.out (by kernel_rfl)) ?_
  have hcz29_0 : w26.cell? ⟨gb309, 0, none⟩ = some (.slice Ao19 t312.length co19) := (blk_cell BK309.out 0).trans rfl
  have hcz29_1 : w26.cell? ⟨gb309, 1, none⟩ = some (.slice Ao21 t315.length co21) := (blk_cell BK309.out 1).trans rfl
  have hcz29_2 : w26.cell? ⟨gb309, 2, none⟩ = some (.slice Ao22 t318.length co22) := (blk_cell BK309.out 2).trans rfl
  have hfz29_0 := blk_frozen BK309.out 0
  have hfz29_1 := blk_frozen BK309.out 1
  have hfz29_2 := blk_frozen BK309.out 2
  have hcz30_0 : w26.cell? ⟨gb310, 0, none⟩ = some (.string a1_0) := (blk_cell BK310.out 0).trans rfl
  have hcz30_1 : w26.cell? ⟨gb310, 1, none⟩ = some (.string a1_1) := (blk_cell BK310.out 1).trans rfl
  have hfz30_0 := blk_frozen BK310.out 0
  have hfz30_1 := blk_frozen BK310.out 1
  go_upto_region 10 with (first | ((with_reducible refine gate_callee (f := 22) rfl ?_); refine goesL_ (some 29) rfl rfl Try.func22 (by kernel_rfl) rfl #[.agg #[.slice Ao19 t312.length co19, .slice Ao21 t315.length co21, .slice Ao22 t318.length co22], .agg #[.string t321, .string t322]] rfl (by (try simp only [List.map_toArray, List.map_cons, List.map_nil]); first | done | rfl | (simp only [List.length_drop, List.length_take]; rfl)) ?_; (with_reducible refine (node_Put.calls _ _ t312 _ _ t315 _ _ t318 t321 t322 t323 t326 t329 t332 _ ?side1 ?side2 ?side3 ?side4 ?side5 ?side6 A7.out).mono ?_); (case side1 => refine (Kd.R_reads' (e := 39) (base := w.heap.size) (ok := fun k_ => k_ ≠ gb310) (n := t312.length) (c := co19) ?_).2.2; exact (by (with_reducible repeat (first | apply Kd.R_alloc | apply Kd.R_drewN | apply Kd.R_drew)); exact (Kd.R_mono (Kd.R_far (p := ⟨gb310, 1, none⟩) (Kd.R_far (p := ⟨gb310, 0, none⟩) (Kd.R_mono HO314.out (fun k_ hk => (⟨hk, hk⟩ : _ ∧ k_ ≠ gb310))) (fun _ hk => hk.2) (.string t321)) (fun _ hk => hk.2) (.string t322)) (fun _ h_ => h_.1)))); (case side2 => exact (Kd.R_reads' HO314.out).2.1); (case side3 => refine (Kd.R_reads' (e := 9) (base := w.heap.size) (ok := fun k_ => True) (n := t315.length) (c := co21) ?_).2.2; exact (by (with_reducible repeat (first | apply Kd.R_alloc | apply Kd.R_drewN | apply Kd.R_drew)); exact (Kd.R_mono (Kd.R_far (p := ⟨gb310, 1, none⟩) (Kd.R_far (p := ⟨gb310, 0, none⟩) (Kd.R_types HO317.out BK310.out (by decide)) (fun _ hk => hk.2) (.string t321)) (fun _ hk => hk.2) (.string t322)) (fun _ h_ => h_.1)))); (case side4 => exact (Kd.R_reads' HO317.out).2.1); (case side5 => refine (Kd.R_reads' (e := 65) (base := w.heap.size) (ok := fun k_ => True) (n := t318.length) (c := co22) ?_).2.2; exact (by (with_reducible repeat (first | apply Kd.R_alloc | apply Kd.R_drewN | apply Kd.R_drew)); exact (Kd.R_mono (Kd.R_far (p := ⟨gb310, 1, none⟩) (Kd.R_far (p := ⟨gb310, 0, none⟩) (Kd.R_types HO320.out BK310.out (by decide)) (fun _ hk => hk.2) (.string t321)) (fun _ hk => hk.2) (.string t322)) (fun _ h_ => h_.1)))); (case side6 => exact (Kd.R_reads' HO320.out).2.1); rintro e w31 ⟨v324, v327, v330, rfl, ho0, ho1, ho2, hb⟩; refine ⟨_, rfl, ?_⟩; have n0_ := Aside0.mk (Kd.R_elder' (by (with_reducible repeat (first | apply Kd.R_alloc | apply Kd.R_drewN | apply Kd.R_drew)); exact (Kd.R_mono (Kd.R_far (p := ⟨gb310, 1, none⟩) (Kd.R_far (p := ⟨gb310, 0, none⟩) (Kd.R_mono HO314.out (fun k_ hk => (⟨hk, hk⟩ : _ ∧ k_ ≠ gb310))) (fun _ hk => hk.2) (.string t321)) (fun _ hk => hk.2) (.string t322)) (fun _ h_ => h_.1))) (Kd.R_base ho0) hb); have n1_ := Aside0.mk (Kd.R_elder' (by (with_reducible repeat (first | apply Kd.R_alloc | apply Kd.R_drewN | apply Kd.R_drew)); exact (Kd.R_mono (Kd.R_far (p := ⟨gb310, 1, none⟩) (Kd.R_far (p := ⟨gb310, 0, none⟩) (Kd.R_types HO317.out BK310.out (by decide)) (fun _ hk => hk.2) (.string t321)) (fun _ hk => hk.2) (.string t322)) (fun _ h_ => h_.1))) (Kd.R_base ho1) hb); have n2_ := Aside0.mk (Kd.R_elder' (by (with_reducible repeat (first | apply Kd.R_alloc | apply Kd.R_drewN | apply Kd.R_drew)); exact (Kd.R_mono (Kd.R_far (p := ⟨gb310, 1, none⟩) (Kd.R_far (p := ⟨gb310, 0, none⟩) (Kd.R_types HO320.out BK310.out (by decide)) (fun _ hk => hk.2) (.string t321)) (fun _ hk => hk.2) (.string t322)) (fun _ h_ => h_.1))) (Kd.R_base ho2) hb); have n3_ := Aside0.mk (Kd.R_lower (Kd.R_newB (Kd.R_new' ho0 (Kd.R_lt (by (with_reducible repeat (first | apply Kd.R_alloc | apply Kd.R_drewN | apply Kd.R_drew)); exact (Kd.R_mono (Kd.R_far (p := ⟨gb310, 1, none⟩) (Kd.R_far (p := ⟨gb310, 0, none⟩) (Kd.R_mono HO314.out (fun k_ hk => (⟨hk, hk⟩ : _ ∧ k_ ≠ gb310))) (fun _ hk => hk.2) (.string t321)) (fun _ hk => hk.2) (.string t322)) (fun _ h_ => h_.1))))) (g := gb310) (o := .cells #[.string t321, .string t322] 39 (0, 0)) (by (with_reducible repeat (first | refine blk_drewN ?_ _ | refine blk_drew ?_ | refine blk_alloc ?_ _)); refine blk_put (cs := #[.string t321, .string a1_1]) ?_ 1 _ rfl; (with_reducible repeat (first | refine blk_drewN ?_ _ | refine blk_drew ?_ | refine blk_alloc ?_ _)); refine blk_put (cs := #[.string a1_0, .string a1_1]) ?_ 0 _ rfl; (with_reducible repeat (first | refine blk_drewN ?_ _ | refine blk_drew ?_ | refine blk_alloc ?_ _)); exact BK310.out)) (below_size (by repeat (first | (with_reducible first | exact HB.out | apply below_alloc | apply pw_below_drewN | apply below_drew1 | refine below_set ?_ GE309.out | refine below_set ?_ GE310.out) | exact HB.out)))); have n4_ := Aside0.mk (Kd.R_lower (Kd.R_new' ho1 (Kd.R_lt (by (with_reducible repeat (first | apply Kd.R_alloc | apply Kd.R_drewN | apply Kd.R_drew)); exact (Kd.R_mono (Kd.R_far (p := ⟨gb310, 1, none⟩) (Kd.R_far (p := ⟨gb310, 0, none⟩) (Kd.R_types HO317.out BK310.out (by decide)) (fun _ hk => hk.2) (.string t321)) (fun _ hk => hk.2) (.string t322)) (fun _ h_ => h_.1))))) (below_size (by repeat (first | (with_reducible first | exact HB.out | apply below_alloc | apply pw_below_drewN | apply below_drew1 | refine below_set ?_ GE309.out | refine below_set ?_ GE310.out) | exact HB.out)))); have n5_ := Aside0.mk (Kd.R_lower (Kd.R_new' ho2 (Kd.R_lt (by (with_reducible repeat (first | apply Kd.R_alloc | apply Kd.R_drewN | apply Kd.R_drew)); exact (Kd.R_mono (Kd.R_far (p := ⟨gb310, 1, none⟩) (Kd.R_far (p := ⟨gb310, 0, none⟩) (Kd.R_types HO320.out BK310.out (by decide)) (fun _ hk => hk.2) (.string t321)) (fun _ hk => hk.2) (.string t322)) (fun _ h_ => h_.1))))) (below_size (by repeat (first | (with_reducible first | exact HB.out | apply below_alloc | apply pw_below_drewN | apply below_drew1 | refine below_set ?_ GE309.out | refine below_set ?_ GE310.out) | exact HB.out)))); have n6_ := Aside0.mk (blk_below (g := gb309) (o := .cells #[.slice Ao19 t312.length co19, .slice Ao21 t315.length co21, .slice Ao22 t318.length co22] 26 (0, 0)) (by (with_reducible repeat (first | refine blk_drewN ?_ _ | refine blk_drew ?_ | refine blk_alloc ?_ _)); refine blk_far ?_ NB309_310.out _; (with_reducible repeat (first | refine blk_drewN ?_ _ | refine blk_drew ?_ | refine blk_alloc ?_ _)); refine blk_far ?_ NB309_310.out _; (with_reducible repeat (first | refine blk_drewN ?_ _ | refine blk_drew ?_ | refine blk_alloc ?_ _)); exact BK309.out) hb); have n7_ := Aside0.mk (blk_below (g := gb310) (o := .cells #[.string t321, .string t322] 39 (0, 0)) (by (with_reducible repeat (first | refine blk_drewN ?_ _ | refine blk_drew ?_ | refine blk_alloc ?_ _)); refine blk_put (cs := #[.string t321, .string a1_1]) ?_ 1 _ rfl; (with_reducible repeat (first | refine blk_drewN ?_ _ | refine blk_drew ?_ | refine blk_alloc ?_ _)); refine blk_put (cs := #[.string a1_0, .string a1_1]) ?_ 0 _ rfl; (with_reducible repeat (first | refine blk_drewN ?_ _ | refine blk_drew ?_ | refine blk_alloc ?_ _)); exact BK310.out) hb); have n8_ := Aside0.mk (below_step (by repeat (first | (with_reducible first | exact HB.out | apply below_alloc | apply pw_below_drewN | apply below_drew1 | refine below_set ?_ GE309.out | refine below_set ?_ GE310.out) | exact HB.out)) hb); clear HO314; clear HO317; clear HO320; clear BK309; clear BK310; clear HB; have HO314 := n0_; have HO317 := n1_; have HO320 := n2_; have HO325 := n3_; have HO328 := n4_; have HO331 := n5_; have BK309 := n6_; have BK310 := n7_; have HB := n8_; clear n0_ n1_ n2_ n3_ n4_ n5_ n6_ n7_ n8_; (try clear hb); (try clear hb2); (try clear hk); (try clear hi); (try clear ho0); (try clear ho1); (try clear ho2)) | ((with_reducible refine gate_dst (N := 6) rfl ?_); (try (refine gate_guard (by rfl) ?_; dsimp only)); refine box_event ?hg (N := 6) ?hd (cs := #[.slice none 0 0, .slice none 0 0, .slice none 0 0]) (t := 26) ?hr ?_; (case hd => rfl); (case hg => rfl); (case hr => first | (go_simp; done) | (go_simp; rfl)); intro gb333 hg w32 hbox hb; have n0_ := Aside0.mk (Kd.R_below (by (with_reducible repeat (first | apply Kd.R_alloc | apply Kd.R_drewN | apply Kd.R_drew)); exact HO314.out) hb); have n1_ := Aside0.mk (Kd.R_below (by (with_reducible repeat (first | apply Kd.R_alloc | apply Kd.R_drewN | apply Kd.R_drew)); exact HO317.out) hb); have n2_ := Aside0.mk (Kd.R_below (by (with_reducible repeat (first | apply Kd.R_alloc | apply Kd.R_drewN | apply Kd.R_drew)); exact HO320.out) hb); have n3_ := Aside0.mk (Kd.R_below (by (with_reducible repeat (first | apply Kd.R_alloc | apply Kd.R_drewN | apply Kd.R_drew)); exact HO325.out) hb); have n4_ := Aside0.mk (Kd.R_below (by (with_reducible repeat (first | apply Kd.R_alloc | apply Kd.R_drewN | apply Kd.R_drew)); exact HO328.out) hb); have n5_ := Aside0.mk (Kd.R_below (by (with_reducible repeat (first | apply Kd.R_alloc | apply Kd.R_drewN | apply Kd.R_drew)); exact HO331.out) hb); have n6_ := Aside0.mk (blk_below (g := gb309) (o := .cells #[.slice Ao19 t312.length co19, .slice Ao21 t315.length co21, .slice Ao22 t318.length co22] 26 (0, 0)) (by (with_reducible repeat (first | refine blk_drewN ?_ _ | refine blk_drew ?_ | refine blk_alloc ?_ _)); exact BK309.out) hb); have n7_ := Aside0.mk (blk_below (g := gb310) (o := .cells #[.string t321, .string t322] 39 (0, 0)) (by (with_reducible repeat (first | refine blk_drewN ?_ _ | refine blk_drew ?_ | refine blk_alloc ?_ _)); exact BK310.out) hb); have n8_ := Aside0.mk (below_step (by repeat (first | (with_reducible first | exact HB.out | apply below_alloc | apply pw_below_drewN | apply below_drew1 | refine below_set ?_ GE309.out | refine below_set ?_ GE310.out) | exact HB.out)) hb); have n9_ := Aside0.mk (hbox); have n10_ := Aside0.mk ((by rw [hg]; exact (below_size (by repeat (first | (with_reducible first | exact HB.out | apply below_alloc | apply pw_below_drewN | apply below_drew1 | refine below_set ?_ GE309.out | refine below_set ?_ GE310.out) | exact HB.out))) : w.heap.size ≤ gb333)); have n11_ := Aside0.mk ((by rw [hg]; exact (below_size (by repeat (first | (with_reducible first | exact HB.out | apply below_alloc | apply pw_below_drewN | apply below_drew1 | refine below_set ?_ GE309.out | refine below_set ?_ GE310.out) | exact HB.out))) : w.heap.size ≤ gb333)); have n12_ := Aside0.mk ((by rw [hg]; exact Nat.ne_of_lt (blk_lt (g := gb309) (o := .cells #[.slice Ao19 t312.length co19, .slice Ao21 t315.length co21, .slice Ao22 t318.length co22] 26 (0, 0)) (by (with_reducible repeat (first | refine blk_drewN ?_ _ | refine blk_drew ?_ | refine blk_alloc ?_ _)); exact BK309.out)) : gb309 ≠ gb333)); have n13_ := Aside0.mk ((by rw [hg]; exact Nat.ne_of_gt (blk_lt (g := gb309) (o := .cells #[.slice Ao19 t312.length co19, .slice Ao21 t315.length co21, .slice Ao22 t318.length co22] 26 (0, 0)) (by (with_reducible repeat (first | refine blk_drewN ?_ _ | refine blk_drew ?_ | refine blk_alloc ?_ _)); exact BK309.out)) : gb333 ≠ gb309)); have n14_ := Aside0.mk ((by rw [hg]; exact Nat.ne_of_lt (blk_lt (g := gb310) (o := .cells #[.string t321, .string t322] 39 (0, 0)) (by (with_reducible repeat (first | refine blk_drewN ?_ _ | refine blk_drew ?_ | refine blk_alloc ?_ _)); exact BK310.out)) : gb310 ≠ gb333)); have n15_ := Aside0.mk ((by rw [hg]; exact Nat.ne_of_gt (blk_lt (g := gb310) (o := .cells #[.string t321, .string t322] 39 (0, 0)) (by (with_reducible repeat (first | refine blk_drewN ?_ _ | refine blk_drew ?_ | refine blk_alloc ?_ _)); exact BK310.out)) : gb333 ≠ gb310)); clear HO314; clear HO317; clear HO320; clear HO325; clear HO328; clear HO331; clear BK309; clear BK310; clear HB; have HO314 := n0_; have HO317 := n1_; have HO320 := n2_; have HO325 := n3_; have HO328 := n4_; have HO331 := n5_; have BK309 := n6_; have BK310 := n7_; have HB := n8_; have BK333 := n9_; have GW333 := n10_; have GE333 := n11_; have NB309_333 := n12_; have NB333_309 := n13_; have NB310_333 := n14_; have NB333_310 := n15_; clear n0_ n1_ n2_ n3_ n4_ n5_ n6_ n7_ n8_ n9_ n10_ n11_ n12_ n13_ n14_ n15_; clear hb hbox hg; obtain ⟨Ao33, co33, eo33⟩ := Kd.R_slice HO325.out; subst eo33; have hnb34 := NB333_309.out; have hnc34 := NB309_333.out; have hnb35 := NB333_310.out; have hnc35 := NB310_333.out; have hcz36_0 : w32.cell? ⟨gb333, 0, none⟩ = some (.slice none 0 0) := (blk_cell BK333.out 0).trans rfl; have hcz36_1 : w32.cell? ⟨gb333, 1, none⟩ = some (.slice none 0 0) := (blk_cell BK333.out 1).trans rfl; have hcz36_2 : w32.cell? ⟨gb333, 2, none⟩ = some (.slice none 0 0) := (blk_cell BK333.out 2).trans rfl; have hfz36_0 := blk_frozen BK333.out 0; have hfz36_1 := blk_frozen BK333.out 1; have hfz36_2 := blk_frozen BK333.out 2; obtain ⟨Ao37, co37, eo37⟩ := Kd.R_slice HO328.out; subst eo37; obtain ⟨Ao38, co38, eo38⟩ := Kd.R_slice HO331.out; subst eo38; have hcz39_0 : w32.cell? ⟨gb310, 0, none⟩ = some (.string t321) := (blk_cell BK310.out 0).trans rfl; have hcz39_1 : w32.cell? ⟨gb310, 1, none⟩ = some (.string t322) := (blk_cell BK310.out 1).trans rfl; have hfz39_0 := blk_frozen BK310.out 0; have hfz39_1 := blk_frozen BK310.out 1) | ((with_reducible refine gate_callee (f := 18) rfl ?_); refine goesL_ (some 44) rfl rfl Try.func18 (by kernel_rfl) rfl #[.agg #[.slice Ao33 t323.length co33, .slice Ao37 t326.length co37, .slice Ao38 t329.length co38], .string t321] rfl (by (try simp only [List.map_toArray, List.map_cons, List.map_nil]); first | done | rfl | (simp only [List.length_drop, List.length_take]; rfl)) ?_; (with_reducible refine (node_Place.calls k _ _ t323 _ _ t326 _ _ t329 t321 t334 _ ?side1 ?side2 ?side3 ?side4 ?side5 ?side6 A9.out).mono ?_); (case side1 => refine (Kd.R_reads' (e := 39) (base := w.heap.size) (ok := fun k_ => ((True ∧ some k_ ≠ (.slice Ao19 t312.length co19 : Value).ownBlock) ∧ k_ ≠ gb310)) (n := t323.length) (c := co33) ?_).2.2; exact (by (with_reducible repeat (first | apply Kd.R_alloc | apply Kd.R_drewN | apply Kd.R_drew)); exact (Kd.R_mono (Kd.R_far (p := ⟨gb333, 2, none⟩) (Kd.R_far (p := ⟨gb333, 1, none⟩) (Kd.R_far (p := ⟨gb333, 0, none⟩) (Kd.R_types HO325.out BK333.out (by decide)) (fun _ hk => hk.2) (.slice Ao33 t323.length co33)) (fun _ hk => hk.2) (.slice Ao37 t326.length co37)) (fun _ hk => hk.2) (.slice Ao38 t329.length co38)) (fun _ h_ => h_.1)))); (case side2 => exact (Kd.R_reads' HO325.out).2.1); (case side3 => refine (Kd.R_reads' (e := 9) (base := w.heap.size) (ok := fun k_ => (True ∧ some k_ ≠ (.slice Ao21 t315.length co21 : Value).ownBlock)) (n := t326.length) (c := co37) ?_).2.2; exact (by (with_reducible repeat (first | apply Kd.R_alloc | apply Kd.R_drewN | apply Kd.R_drew)); exact (Kd.R_mono (Kd.R_far (p := ⟨gb333, 2, none⟩) (Kd.R_far (p := ⟨gb333, 1, none⟩) (Kd.R_far (p := ⟨gb333, 0, none⟩) (Kd.R_types HO328.out BK333.out (by decide)) (fun _ hk => hk.2) (.slice Ao33 t323.length co33)) (fun _ hk => hk.2) (.slice Ao37 t326.length co37)) (fun _ hk => hk.2) (.slice Ao38 t329.length co38)) (fun _ h_ => h_.1)))); (case side4 => exact (Kd.R_reads' HO328.out).2.1); (case side5 => refine (Kd.R_reads' (e := 65) (base := w.heap.size) (ok := fun k_ => (True ∧ some k_ ≠ (.slice Ao22 t318.length co22 : Value).ownBlock)) (n := t329.length) (c := co38) ?_).2.2; exact (by (with_reducible repeat (first | apply Kd.R_alloc | apply Kd.R_drewN | apply Kd.R_drew)); exact (Kd.R_mono (Kd.R_far (p := ⟨gb333, 2, none⟩) (Kd.R_far (p := ⟨gb333, 1, none⟩) (Kd.R_far (p := ⟨gb333, 0, none⟩) (Kd.R_types HO331.out BK333.out (by decide)) (fun _ hk => hk.2) (.slice Ao33 t323.length co33)) (fun _ hk => hk.2) (.slice Ao37 t326.length co37)) (fun _ hk => hk.2) (.slice Ao38 t329.length co38)) (fun _ h_ => h_.1)))); (case side6 => exact (Kd.R_reads' HO331.out).2.1); rintro e w40 ⟨rfl, hb⟩; refine ⟨_, rfl, ?_⟩; have n0_ := Aside0.mk (Kd.R_below (by (with_reducible repeat (first | apply Kd.R_alloc | apply Kd.R_drewN | apply Kd.R_drew)); exact (Kd.R_mono (Kd.R_far (p := ⟨gb333, 2, none⟩) (Kd.R_far (p := ⟨gb333, 1, none⟩) (Kd.R_far (p := ⟨gb333, 0, none⟩) (Kd.R_types HO314.out BK333.out (by decide)) (fun _ hk => hk.2) (.slice Ao33 t323.length co33)) (fun _ hk => hk.2) (.slice Ao37 t326.length co37)) (fun _ hk => hk.2) (.slice Ao38 t329.length co38)) (fun _ h_ => h_.1))) hb); have n1_ := Aside0.mk (Kd.R_below (by (with_reducible repeat (first | apply Kd.R_alloc | apply Kd.R_drewN | apply Kd.R_drew)); exact (Kd.R_mono (Kd.R_far (p := ⟨gb333, 2, none⟩) (Kd.R_far (p := ⟨gb333, 1, none⟩) (Kd.R_far (p := ⟨gb333, 0, none⟩) (Kd.R_types HO317.out BK333.out (by decide)) (fun _ hk => hk.2) (.slice Ao33 t323.length co33)) (fun _ hk => hk.2) (.slice Ao37 t326.length co37)) (fun _ hk => hk.2) (.slice Ao38 t329.length co38)) (fun _ h_ => h_.1))) hb); have n2_ := Aside0.mk (Kd.R_below (by (with_reducible repeat (first | apply Kd.R_alloc | apply Kd.R_drewN | apply Kd.R_drew)); exact (Kd.R_mono (Kd.R_far (p := ⟨gb333, 2, none⟩) (Kd.R_far (p := ⟨gb333, 1, none⟩) (Kd.R_far (p := ⟨gb333, 0, none⟩) (Kd.R_types HO320.out BK333.out (by decide)) (fun _ hk => hk.2) (.slice Ao33 t323.length co33)) (fun _ hk => hk.2) (.slice Ao37 t326.length co37)) (fun _ hk => hk.2) (.slice Ao38 t329.length co38)) (fun _ h_ => h_.1))) hb); have n3_ := Aside0.mk (Kd.R_below (by (with_reducible repeat (first | apply Kd.R_alloc | apply Kd.R_drewN | apply Kd.R_drew)); exact (Kd.R_mono (Kd.R_far (p := ⟨gb333, 2, none⟩) (Kd.R_far (p := ⟨gb333, 1, none⟩) (Kd.R_far (p := ⟨gb333, 0, none⟩) (Kd.R_types HO325.out BK333.out (by decide)) (fun _ hk => hk.2) (.slice Ao33 t323.length co33)) (fun _ hk => hk.2) (.slice Ao37 t326.length co37)) (fun _ hk => hk.2) (.slice Ao38 t329.length co38)) (fun _ h_ => h_.1))) hb); have n4_ := Aside0.mk (Kd.R_below (by (with_reducible repeat (first | apply Kd.R_alloc | apply Kd.R_drewN | apply Kd.R_drew)); exact (Kd.R_mono (Kd.R_far (p := ⟨gb333, 2, none⟩) (Kd.R_far (p := ⟨gb333, 1, none⟩) (Kd.R_far (p := ⟨gb333, 0, none⟩) (Kd.R_types HO328.out BK333.out (by decide)) (fun _ hk => hk.2) (.slice Ao33 t323.length co33)) (fun _ hk => hk.2) (.slice Ao37 t326.length co37)) (fun _ hk => hk.2) (.slice Ao38 t329.length co38)) (fun _ h_ => h_.1))) hb); have n5_ := Aside0.mk (Kd.R_below (by (with_reducible repeat (first | apply Kd.R_alloc | apply Kd.R_drewN | apply Kd.R_drew)); exact (Kd.R_mono (Kd.R_far (p := ⟨gb333, 2, none⟩) (Kd.R_far (p := ⟨gb333, 1, none⟩) (Kd.R_far (p := ⟨gb333, 0, none⟩) (Kd.R_types HO331.out BK333.out (by decide)) (fun _ hk => hk.2) (.slice Ao33 t323.length co33)) (fun _ hk => hk.2) (.slice Ao37 t326.length co37)) (fun _ hk => hk.2) (.slice Ao38 t329.length co38)) (fun _ h_ => h_.1))) hb); have n6_ := Aside0.mk (blk_below (g := gb309) (o := .cells #[.slice Ao19 t312.length co19, .slice Ao21 t315.length co21, .slice Ao22 t318.length co22] 26 (0, 0)) (by (with_reducible repeat (first | refine blk_drewN ?_ _ | refine blk_drew ?_ | refine blk_alloc ?_ _)); refine blk_far ?_ NB309_333.out _; (with_reducible repeat (first | refine blk_drewN ?_ _ | refine blk_drew ?_ | refine blk_alloc ?_ _)); refine blk_far ?_ NB309_333.out _; (with_reducible repeat (first | refine blk_drewN ?_ _ | refine blk_drew ?_ | refine blk_alloc ?_ _)); refine blk_far ?_ NB309_333.out _; (with_reducible repeat (first | refine blk_drewN ?_ _ | refine blk_drew ?_ | refine blk_alloc ?_ _)); exact BK309.out) hb); have n7_ := Aside0.mk (blk_below (g := gb310) (o := .cells #[.string t321, .string t322] 39 (0, 0)) (by (with_reducible repeat (first | refine blk_drewN ?_ _ | refine blk_drew ?_ | refine blk_alloc ?_ _)); refine blk_far ?_ NB310_333.out _; (with_reducible repeat (first | refine blk_drewN ?_ _ | refine blk_drew ?_ | refine blk_alloc ?_ _)); refine blk_far ?_ NB310_333.out _; (with_reducible repeat (first | refine blk_drewN ?_ _ | refine blk_drew ?_ | refine blk_alloc ?_ _)); refine blk_far ?_ NB310_333.out _; (with_reducible repeat (first | refine blk_drewN ?_ _ | refine blk_drew ?_ | refine blk_alloc ?_ _)); exact BK310.out) hb); have n8_ := Aside0.mk (blk_below (g := gb333) (o := .cells #[.slice Ao33 t323.length co33, .slice Ao37 t326.length co37, .slice Ao38 t329.length co38] 26 (0, 0)) (by (with_reducible repeat (first | refine blk_drewN ?_ _ | refine blk_drew ?_ | refine blk_alloc ?_ _)); refine blk_put (cs := #[.slice Ao33 t323.length co33, .slice Ao37 t326.length co37, .slice none 0 0]) ?_ 2 _ rfl; (with_reducible repeat (first | refine blk_drewN ?_ _ | refine blk_drew ?_ | refine blk_alloc ?_ _)); refine blk_put (cs := #[.slice Ao33 t323.length co33, .slice none 0 0, .slice none 0 0]) ?_ 1 _ rfl; (with_reducible repeat (first | refine blk_drewN ?_ _ | refine blk_drew ?_ | refine blk_alloc ?_ _)); refine blk_put (cs := #[.slice none 0 0, .slice none 0 0, .slice none 0 0]) ?_ 0 _ rfl; (with_reducible repeat (first | refine blk_drewN ?_ _ | refine blk_drew ?_ | refine blk_alloc ?_ _)); exact BK333.out) hb); have n9_ := Aside0.mk (below_step (by repeat (first | (with_reducible first | exact HB.out | apply below_alloc | apply pw_below_drewN | apply below_drew1 | refine below_set ?_ GE309.out | refine below_set ?_ GE310.out | refine below_set ?_ GE333.out) | exact HB.out)) hb); clear HO314; clear HO317; clear HO320; clear HO325; clear HO328; clear HO331; clear BK309; clear BK310; clear BK333; clear HB; have HO314 := n0_; have HO317 := n1_; have HO320 := n2_; have HO325 := n3_; have HO328 := n4_; have HO331 := n5_; have BK309 := n6_; have BK310 := n7_; have BK333 := n8_; have HB := n9_; clear n0_ n1_ n2_ n3_ n4_ n5_ n6_ n7_ n8_ n9_; (try clear hb); (try clear hb2); (try clear hk); (try clear hi); have hcz41_0 : w40.cell? ⟨gb333, 0, none⟩ = some (.slice Ao33 t323.length co33) := (blk_cell BK333.out 0).trans rfl; have hcz41_1 : w40.cell? ⟨gb333, 1, none⟩ = some (.slice Ao37 t326.length co37) := (blk_cell BK333.out 1).trans rfl; have hcz41_2 : w40.cell? ⟨gb333, 2, none⟩ = some (.slice Ao38 t329.length co38) := (blk_cell BK333.out 2).trans rfl; have hfz41_0 := blk_frozen BK333.out 0; have hfz41_1 := blk_frozen BK333.out 1; have hfz41_2 := blk_frozen BK333.out 2; have hcz42_0 : w40.cell? ⟨gb310, 0, none⟩ = some (.string t321) := (blk_cell BK310.out 0).trans rfl; have hcz42_1 : w40.cell? ⟨gb310, 1, none⟩ = some (.string t322) := (blk_cell BK310.out 1).trans rfl; have hfz42_0 := blk_frozen BK310.out 0; have hfz42_1 := blk_frozen BK310.out 1) | ((with_reducible refine gate_callee (f := 24) rfl ?_); refine goesL_ (some 49) rfl rfl Try.func24 (by kernel_rfl) rfl #[.agg #[.slice Ao33 t323.length co33, .slice Ao37 t326.length co37, .slice Ao38 t329.length co38], .string t321] rfl (by (try simp only [List.map_toArray, List.map_cons, List.map_nil]); first | done | rfl | (simp only [List.length_drop, List.length_take]; rfl)) ?_; (with_reducible refine (node_Delete.calls _ _ t323 _ _ t326 _ _ t329 t321 t335 t338 t341 t344 t345 _ ?side1 ?side2 ?side3 ?side4 ?side5 ?side6 A10.out).mono ?_); (case side1 => repeat (first | exact (Kd.R_reads' HO325.out).2.2 | (with_reducible refine Kd.C_alloc ?_ _) | (with_reducible refine Kd.C_drewN ?_ _) | (with_reducible refine Kd.C_drew ?_))); (case side2 => exact (Kd.R_reads' HO325.out).2.1); (case side3 => repeat (first | exact (Kd.R_reads' HO328.out).2.2 | (with_reducible refine Kd.C_alloc ?_ _) | (with_reducible refine Kd.C_drewN ?_ _) | (with_reducible refine Kd.C_drew ?_))); (case side4 => exact (Kd.R_reads' HO328.out).2.1); (case side5 => repeat (first | exact (Kd.R_reads' HO331.out).2.2 | (with_reducible refine Kd.C_alloc ?_ _) | (with_reducible refine Kd.C_drewN ?_ _) | (with_reducible refine Kd.C_drew ?_))); (case side6 => exact (Kd.R_reads' HO331.out).2.1); rintro e w43 ⟨v336, v339, v342, rfl, ho0, ho1, ho2, hb⟩; refine ⟨_, rfl, ?_⟩; have n0_ := Aside0.mk (Kd.R_elder' (by (with_reducible repeat (first | apply Kd.R_alloc | apply Kd.R_drewN | apply Kd.R_drew)); exact HO314.out) (Kd.R_base ho0) hb); have n1_ := Aside0.mk (Kd.R_elder' (by (with_reducible repeat (first | apply Kd.R_alloc | apply Kd.R_drewN | apply Kd.R_drew)); exact HO317.out) (Kd.R_base ho1) hb); have n2_ := Aside0.mk (Kd.R_elder' (by (with_reducible repeat (first | apply Kd.R_alloc | apply Kd.R_drewN | apply Kd.R_drew)); exact HO320.out) (Kd.R_base ho2) hb); have n3_ := Aside0.mk (Kd.R_elder' (by (with_reducible repeat (first | apply Kd.R_alloc | apply Kd.R_drewN | apply Kd.R_drew)); exact HO325.out) (Kd.R_base ho0) hb); have n4_ := Aside0.mk (Kd.R_elder' (by (with_reducible repeat (first | apply Kd.R_alloc | apply Kd.R_drewN | apply Kd.R_drew)); exact HO328.out) (Kd.R_base ho1) hb); have n5_ := Aside0.mk (Kd.R_elder' (by (with_reducible repeat (first | apply Kd.R_alloc | apply Kd.R_drewN | apply Kd.R_drew)); exact HO331.out) (Kd.R_base ho2) hb); have n6_ := Aside0.mk (Kd.R_lower (Kd.R_newB (Kd.R_new' (Kd.R_new' ho0 (Kd.R_lt (by (with_reducible repeat (first | apply Kd.R_alloc | apply Kd.R_drewN | apply Kd.R_drew)); exact HO314.out))) (Kd.R_lt (by (with_reducible repeat (first | apply Kd.R_alloc | apply Kd.R_drewN | apply Kd.R_drew)); exact HO325.out))) (g := gb310) (o := .cells #[.string t321, .string t322] 39 (0, 0)) (by (with_reducible repeat (first | refine blk_drewN ?_ _ | refine blk_drew ?_ | refine blk_alloc ?_ _)); exact BK310.out)) (below_size (by repeat (first | (with_reducible first | exact HB.out | apply below_alloc | apply pw_below_drewN | apply below_drew1 | refine below_set ?_ GE309.out | refine below_set ?_ GE310.out | refine below_set ?_ GE333.out) | exact HB.out)))); have n7_ := Aside0.mk (Kd.R_lower (Kd.R_new' (Kd.R_new' ho1 (Kd.R_lt (by (with_reducible repeat (first | apply Kd.R_alloc | apply Kd.R_drewN | apply Kd.R_drew)); exact HO317.out))) (Kd.R_lt (by (with_reducible repeat (first | apply Kd.R_alloc | apply Kd.R_drewN | apply Kd.R_drew)); exact HO328.out))) (below_size (by repeat (first | (with_reducible first | exact HB.out | apply below_alloc | apply pw_below_drewN | apply below_drew1 | refine below_set ?_ GE309.out | refine below_set ?_ GE310.out | refine below_set ?_ GE333.out) | exact HB.out)))); have n8_ := Aside0.mk (Kd.R_lower (Kd.R_new' (Kd.R_new' ho2 (Kd.R_lt (by (with_reducible repeat (first | apply Kd.R_alloc | apply Kd.R_drewN | apply Kd.R_drew)); exact HO320.out))) (Kd.R_lt (by (with_reducible repeat (first | apply Kd.R_alloc | apply Kd.R_drewN | apply Kd.R_drew)); exact HO331.out))) (below_size (by repeat (first | (with_reducible first | exact HB.out | apply below_alloc | apply pw_below_drewN | apply below_drew1 | refine below_set ?_ GE309.out | refine below_set ?_ GE310.out | refine below_set ?_ GE333.out) | exact HB.out)))); have n9_ := Aside0.mk (blk_below (g := gb309) (o := .cells #[.slice Ao19 t312.length co19, .slice Ao21 t315.length co21, .slice Ao22 t318.length co22] 26 (0, 0)) (by (with_reducible repeat (first | refine blk_drewN ?_ _ | refine blk_drew ?_ | refine blk_alloc ?_ _)); exact BK309.out) hb); have n10_ := Aside0.mk (blk_below (g := gb310) (o := .cells #[.string t321, .string t322] 39 (0, 0)) (by (with_reducible repeat (first | refine blk_drewN ?_ _ | refine blk_drew ?_ | refine blk_alloc ?_ _)); exact BK310.out) hb); have n11_ := Aside0.mk (blk_below (g := gb333) (o := .cells #[.slice Ao33 t323.length co33, .slice Ao37 t326.length co37, .slice Ao38 t329.length co38] 26 (0, 0)) (by (with_reducible repeat (first | refine blk_drewN ?_ _ | refine blk_drew ?_ | refine blk_alloc ?_ _)); exact BK333.out) hb); have n12_ := Aside0.mk (below_step (by repeat (first | (with_reducible first | exact HB.out | apply below_alloc | apply pw_below_drewN | apply below_drew1 | refine below_set ?_ GE309.out | refine below_set ?_ GE310.out | refine below_set ?_ GE333.out) | exact HB.out)) hb); clear HO314; clear HO317; clear HO320; clear HO325; clear HO328; clear HO331; clear BK309; clear BK310; clear BK333; clear HB; have HO314 := n0_; have HO317 := n1_; have HO320 := n2_; have HO325 := n3_; have HO328 := n4_; have HO331 := n5_; have HO337 := n6_; have HO340 := n7_; have HO343 := n8_; have BK309 := n9_; have BK310 := n10_; have BK333 := n11_; have HB := n12_; clear n0_ n1_ n2_ n3_ n4_ n5_ n6_ n7_ n8_ n9_ n10_ n11_ n12_; (try clear hb); (try clear hb2); (try clear hk); (try clear hi); (try clear ho0); (try clear ho1); (try clear ho2)) | ((with_reducible refine gate_dst (N := 9) rfl ?_); (try (refine gate_guard (by rfl) ?_; dsimp only)); refine box_event ?hg (N := 9) ?hd (cs := #[.slice none 0 0, .slice none 0 0, .slice none 0 0]) (t := 26) ?hr ?_; (case hd => rfl); (case hg => rfl); (case hr => first | (go_simp; done) | (go_simp; rfl)); intro gb346 hg w44 hbox hb; have n0_ := Aside0.mk (Kd.R_below (by (with_reducible repeat (first | apply Kd.R_alloc | apply Kd.R_drewN | apply Kd.R_drew)); exact HO314.out) hb); have n1_ := Aside0.mk (Kd.R_below (by (with_reducible repeat (first | apply Kd.R_alloc | apply Kd.R_drewN | apply Kd.R_drew)); exact HO317.out) hb); have n2_ := Aside0.mk (Kd.R_below (by (with_reducible repeat (first | apply Kd.R_alloc | apply Kd.R_drewN | apply Kd.R_drew)); exact HO320.out) hb); have n3_ := Aside0.mk (Kd.R_below (by (with_reducible repeat (first | apply Kd.R_alloc | apply Kd.R_drewN | apply Kd.R_drew)); exact HO325.out) hb); have n4_ := Aside0.mk (Kd.R_below (by (with_reducible repeat (first | apply Kd.R_alloc | apply Kd.R_drewN | apply Kd.R_drew)); exact HO328.out) hb); have n5_ := Aside0.mk (Kd.R_below (by (with_reducible repeat (first | apply Kd.R_alloc | apply Kd.R_drewN | apply Kd.R_drew)); exact HO331.out) hb); have n6_ := Aside0.mk (Kd.R_below (by (with_reducible repeat (first | apply Kd.R_alloc | apply Kd.R_drewN | apply Kd.R_drew)); exact HO337.out) hb); have n7_ := Aside0.mk (Kd.R_below (by (with_reducible repeat (first | apply Kd.R_alloc | apply Kd.R_drewN | apply Kd.R_drew)); exact HO340.out) hb); have n8_ := Aside0.mk (Kd.R_below (by (with_reducible repeat (first | apply Kd.R_alloc | apply Kd.R_drewN | apply Kd.R_drew)); exact HO343.out) hb); have n9_ := Aside0.mk (blk_below (g := gb309) (o := .cells #[.slice Ao19 t312.length co19, .slice Ao21 t315.length co21, .slice Ao22 t318.length co22] 26 (0, 0)) (by (with_reducible repeat (first | refine blk_drewN ?_ _ | refine blk_drew ?_ | refine blk_alloc ?_ _)); exact BK309.out) hb); have n10_ := Aside0.mk (blk_below (g := gb310) (o := .cells #[.string t321, .string t322] 39 (0, 0)) (by (with_reducible repeat (first | refine blk_drewN ?_ _ | refine blk_drew ?_ | refine blk_alloc ?_ _)); exact BK310.out) hb); have n11_ := Aside0.mk (blk_below (g := gb333) (o := .cells #[.slice Ao33 t323.length co33, .slice Ao37 t326.length co37, .slice Ao38 t329.length co38] 26 (0, 0)) (by (with_reducible repeat (first | refine blk_drewN ?_ _ | refine blk_drew ?_ | refine blk_alloc ?_ _)); exact BK333.out) hb); have n12_ := Aside0.mk (below_step (by repeat (first | (with_reducible first | exact HB.out | apply below_alloc | apply pw_below_drewN | apply below_drew1 | refine below_set ?_ GE309.out | refine below_set ?_ GE310.out | refine below_set ?_ GE333.out) | exact HB.out)) hb); have n13_ := Aside0.mk (hbox); have n14_ := Aside0.mk ((by rw [hg]; exact (below_size (by repeat (first | (with_reducible first | exact HB.out | apply below_alloc | apply pw_below_drewN | apply below_drew1 | refine below_set ?_ GE309.out | refine below_set ?_ GE310.out | refine below_set ?_ GE333.out) | exact HB.out))) : w.heap.size ≤ gb346)); have n15_ := Aside0.mk ((by rw [hg]; exact (below_size (by repeat (first | (with_reducible first | exact HB.out | apply below_alloc | apply pw_below_drewN | apply below_drew1 | refine below_set ?_ GE309.out | refine below_set ?_ GE310.out | refine below_set ?_ GE333.out) | exact HB.out))) : w.heap.size ≤ gb346)); have n16_ := Aside0.mk ((by rw [hg]; exact Nat.ne_of_lt (blk_lt (g := gb309) (o := .cells #[.slice Ao19 t312.length co19, .slice Ao21 t315.length co21, .slice Ao22 t318.length co22] 26 (0, 0)) (by (with_reducible repeat (first | refine blk_drewN ?_ _ | refine blk_drew ?_ | refine blk_alloc ?_ _)); exact BK309.out)) : gb309 ≠ gb346)); have n17_ := Aside0.mk ((by rw [hg]; exact Nat.ne_of_gt (blk_lt (g := gb309) (o := .cells #[.slice Ao19 t312.length co19, .slice Ao21 t315.length co21, .slice Ao22 t318.length co22] 26 (0, 0)) (by (with_reducible repeat (first | refine blk_drewN ?_ _ | refine blk_drew ?_ | refine blk_alloc ?_ _)); exact BK309.out)) : gb346 ≠ gb309)); have n18_ := Aside0.mk ((by rw [hg]; exact Nat.ne_of_lt (blk_lt (g := gb310) (o := .cells #[.string t321, .string t322] 39 (0, 0)) (by (with_reducible repeat (first | refine blk_drewN ?_ _ | refine blk_drew ?_ | refine blk_alloc ?_ _)); exact BK310.out)) : gb310 ≠ gb346)); have n19_ := Aside0.mk ((by rw [hg]; exact Nat.ne_of_gt (blk_lt (g := gb310) (o := .cells #[.string t321, .string t322] 39 (0, 0)) (by (with_reducible repeat (first | refine blk_drewN ?_ _ | refine blk_drew ?_ | refine blk_alloc ?_ _)); exact BK310.out)) : gb346 ≠ gb310)); have n20_ := Aside0.mk ((by rw [hg]; exact Nat.ne_of_lt (blk_lt (g := gb333) (o := .cells #[.slice Ao33 t323.length co33, .slice Ao37 t326.length co37, .slice Ao38 t329.length co38] 26 (0, 0)) (by (with_reducible repeat (first | refine blk_drewN ?_ _ | refine blk_drew ?_ | refine blk_alloc ?_ _)); exact BK333.out)) : gb333 ≠ gb346)); have n21_ := Aside0.mk ((by rw [hg]; exact Nat.ne_of_gt (blk_lt (g := gb333) (o := .cells #[.slice Ao33 t323.length co33, .slice Ao37 t326.length co37, .slice Ao38 t329.length co38] 26 (0, 0)) (by (with_reducible repeat (first | refine blk_drewN ?_ _ | refine blk_drew ?_ | refine blk_alloc ?_ _)); exact BK333.out)) : gb346 ≠ gb333)); clear HO314; clear HO317; clear HO320; clear HO325; clear HO328; clear HO331; clear HO337; clear HO340; clear HO343; clear BK309; clear BK310; clear BK333; clear HB; have HO314 := n0_; have HO317 := n1_; have HO320 := n2_; have HO325 := n3_; have HO328 := n4_; have HO331 := n5_; have HO337 := n6_; have HO340 := n7_; have HO343 := n8_; have BK309 := n9_; have BK310 := n10_; have BK333 := n11_; have HB := n12_; have BK346 := n13_; have GW346 := n14_; have GE346 := n15_; have NB309_346 := n16_; have NB346_309 := n17_; have NB310_346 := n18_; have NB346_310 := n19_; have NB333_346 := n20_; have NB346_333 := n21_; clear n0_ n1_ n2_ n3_ n4_ n5_ n6_ n7_ n8_ n9_ n10_ n11_ n12_ n13_ n14_ n15_ n16_ n17_ n18_ n19_ n20_ n21_; clear hb hbox hg; obtain ⟨Ao45, co45, eo45⟩ := Kd.R_slice HO337.out; subst eo45; have hnb46 := NB346_309.out; have hnc46 := NB309_346.out; have hnb47 := NB346_310.out; have hnc47 := NB310_346.out; have hnb48 := NB346_333.out; have hnc48 := NB333_346.out; have hcz49_0 : w44.cell? ⟨gb346, 0, none⟩ = some (.slice none 0 0) := (blk_cell BK346.out 0).trans rfl; have hcz49_1 : w44.cell? ⟨gb346, 1, none⟩ = some (.slice none 0 0) := (blk_cell BK346.out 1).trans rfl; have hcz49_2 : w44.cell? ⟨gb346, 2, none⟩ = some (.slice none 0 0) := (blk_cell BK346.out 2).trans rfl; have hfz49_0 := blk_frozen BK346.out 0; have hfz49_1 := blk_frozen BK346.out 1; have hfz49_2 := blk_frozen BK346.out 2; obtain ⟨Ao50, co50, eo50⟩ := Kd.R_slice HO340.out; subst eo50; obtain ⟨Ao51, co51, eo51⟩ := Kd.R_slice HO343.out; subst eo51; have hcz52_0 : w44.cell? ⟨gb309, 0, none⟩ = some (.slice Ao19 t312.length co19) := (blk_cell BK309.out 0).trans rfl; have hcz52_1 : w44.cell? ⟨gb309, 1, none⟩ = some (.slice Ao21 t315.length co21) := (blk_cell BK309.out 1).trans rfl; have hcz52_2 : w44.cell? ⟨gb309, 2, none⟩ = some (.slice Ao22 t318.length co22) := (blk_cell BK309.out 2).trans rfl; have hfz52_0 := blk_frozen BK309.out 0; have hfz52_1 := blk_frozen BK309.out 1; have hfz52_2 := blk_frozen BK309.out 2; have hcz53_0 : w44.cell? ⟨gb310, 0, none⟩ = some (.string t321) := (blk_cell BK310.out 0).trans rfl; have hcz53_1 : w44.cell? ⟨gb310, 1, none⟩ = some (.string t322) := (blk_cell BK310.out 1).trans rfl; have hfz53_0 := blk_frozen BK310.out 0; have hfz53_1 := blk_frozen BK310.out 1) | ((with_reducible refine gate_callee (f := 24) rfl ?_); refine goesL_ (some 57) rfl rfl Try.func24 (by kernel_rfl) rfl #[.agg #[.slice Ao19 t312.length co19, .slice Ao21 t315.length co21, .slice Ao22 t318.length co22], .string t321] rfl (by (try simp only [List.map_toArray, List.map_cons, List.map_nil]); first | done | rfl | (simp only [List.length_drop, List.length_take]; rfl)) ?_; (with_reducible refine (node_Delete.calls _ _ t312 _ _ t315 _ _ t318 t321 t347 t350 t353 t356 t357 _ ?side1 ?side2 ?side3 ?side4 ?side5 ?side6 A11.out).mono ?_); (case side1 => refine (Kd.R_reads' (e := 39) (base := w.heap.size) (ok := fun k_ => ((k_ ≠ gb310 ∧ some k_ ≠ (.slice Ao33 t323.length co33 : Value).ownBlock) ∧ some k_ ≠ (.slice Ao45 t335.length co45 : Value).ownBlock)) (n := t312.length) (c := co19) ?_).2.2; exact (by (with_reducible repeat (first | apply Kd.R_alloc | apply Kd.R_drewN | apply Kd.R_drew)); exact (Kd.R_mono (Kd.R_far (p := ⟨gb346, 2, none⟩) (Kd.R_far (p := ⟨gb346, 1, none⟩) (Kd.R_far (p := ⟨gb346, 0, none⟩) (Kd.R_types HO314.out BK346.out (by decide)) (fun _ hk => hk.2) (.slice Ao45 t335.length co45)) (fun _ hk => hk.2) (.slice Ao50 t338.length co50)) (fun _ hk => hk.2) (.slice Ao51 t341.length co51)) (fun _ h_ => h_.1)))); (case side2 => exact (Kd.R_reads' HO314.out).2.1); (case side3 => refine (Kd.R_reads' (e := 9) (base := w.heap.size) (ok := fun k_ => ((True ∧ some k_ ≠ (.slice Ao37 t326.length co37 : Value).ownBlock) ∧ some k_ ≠ (.slice Ao50 t338.length co50 : Value).ownBlock)) (n := t315.length) (c := co21) ?_).2.2; exact (by (with_reducible repeat (first | apply Kd.R_alloc | apply Kd.R_drewN | apply Kd.R_drew)); exact (Kd.R_mono (Kd.R_far (p := ⟨gb346, 2, none⟩) (Kd.R_far (p := ⟨gb346, 1, none⟩) (Kd.R_far (p := ⟨gb346, 0, none⟩) (Kd.R_types HO317.out BK346.out (by decide)) (fun _ hk => hk.2) (.slice Ao45 t335.length co45)) (fun _ hk => hk.2) (.slice Ao50 t338.length co50)) (fun _ hk => hk.2) (.slice Ao51 t341.length co51)) (fun _ h_ => h_.1)))); (case side4 => exact (Kd.R_reads' HO317.out).2.1); (case side5 => refine (Kd.R_reads' (e := 65) (base := w.heap.size) (ok := fun k_ => ((True ∧ some k_ ≠ (.slice Ao38 t329.length co38 : Value).ownBlock) ∧ some k_ ≠ (.slice Ao51 t341.length co51 : Value).ownBlock)) (n := t318.length) (c := co22) ?_).2.2; exact (by (with_reducible repeat (first | apply Kd.R_alloc | apply Kd.R_drewN | apply Kd.R_drew)); exact (Kd.R_mono (Kd.R_far (p := ⟨gb346, 2, none⟩) (Kd.R_far (p := ⟨gb346, 1, none⟩) (Kd.R_far (p := ⟨gb346, 0, none⟩) (Kd.R_types HO320.out BK346.out (by decide)) (fun _ hk => hk.2) (.slice Ao45 t335.length co45)) (fun _ hk => hk.2) (.slice Ao50 t338.length co50)) (fun _ hk => hk.2) (.slice Ao51 t341.length co51)) (fun _ h_ => h_.1)))); (case side6 => exact (Kd.R_reads' HO320.out).2.1); rintro e w54 ⟨v348, v351, v354, rfl, ho0, ho1, ho2, hb⟩; refine ⟨_, rfl, ?_⟩; have n0_ := Aside0.mk (Kd.R_elder' (by (with_reducible repeat (first | apply Kd.R_alloc | apply Kd.R_drewN | apply Kd.R_drew)); exact (Kd.R_mono (Kd.R_far (p := ⟨gb346, 2, none⟩) (Kd.R_far (p := ⟨gb346, 1, none⟩) (Kd.R_far (p := ⟨gb346, 0, none⟩) (Kd.R_types HO314.out BK346.out (by decide)) (fun _ hk => hk.2) (.slice Ao45 t335.length co45)) (fun _ hk => hk.2) (.slice Ao50 t338.length co50)) (fun _ hk => hk.2) (.slice Ao51 t341.length co51)) (fun _ h_ => h_.1))) (Kd.R_base ho0) hb); have n1_ := Aside0.mk (Kd.R_elder' (by (with_reducible repeat (first | apply Kd.R_alloc | apply Kd.R_drewN | apply Kd.R_drew)); exact (Kd.R_mono (Kd.R_far (p := ⟨gb346, 2, none⟩) (Kd.R_far (p := ⟨gb346, 1, none⟩) (Kd.R_far (p := ⟨gb346, 0, none⟩) (Kd.R_types HO317.out BK346.out (by decide)) (fun _ hk => hk.2) (.slice Ao45 t335.length co45)) (fun _ hk => hk.2) (.slice Ao50 t338.length co50)) (fun _ hk => hk.2) (.slice Ao51 t341.length co51)) (fun _ h_ => h_.1))) (Kd.R_base ho1) hb); have n2_ := Aside0.mk (Kd.R_elder' (by (with_reducible repeat (first | apply Kd.R_alloc | apply Kd.R_drewN | apply Kd.R_drew)); exact (Kd.R_mono (Kd.R_far (p := ⟨gb346, 2, none⟩) (Kd.R_far (p := ⟨gb346, 1, none⟩) (Kd.R_far (p := ⟨gb346, 0, none⟩) (Kd.R_types HO320.out BK346.out (by decide)) (fun _ hk => hk.2) (.slice Ao45 t335.length co45)) (fun _ hk => hk.2) (.slice Ao50 t338.length co50)) (fun _ hk => hk.2) (.slice Ao51 t341.length co51)) (fun _ h_ => h_.1))) (Kd.R_base ho2) hb); have n3_ := Aside0.mk (Kd.R_elder' (by (with_reducible repeat (first | apply Kd.R_alloc | apply Kd.R_drewN | apply Kd.R_drew)); exact (Kd.R_mono (Kd.R_far (p := ⟨gb346, 2, none⟩) (Kd.R_far (p := ⟨gb346, 1, none⟩) (Kd.R_far (p := ⟨gb346, 0, none⟩) (Kd.R_types HO325.out BK346.out (by decide)) (fun _ hk => hk.2) (.slice Ao45 t335.length co45)) (fun _ hk => hk.2) (.slice Ao50 t338.length co50)) (fun _ hk => hk.2) (.slice Ao51 t341.length co51)) (fun _ h_ => h_.1))) (Kd.R_base ho0) hb); have n4_ := Aside0.mk (Kd.R_elder' (by (with_reducible repeat (first | apply Kd.R_alloc | apply Kd.R_drewN | apply Kd.R_drew)); exact (Kd.R_mono (Kd.R_far (p := ⟨gb346, 2, none⟩) (Kd.R_far (p := ⟨gb346, 1, none⟩) (Kd.R_far (p := ⟨gb346, 0, none⟩) (Kd.R_types HO328.out BK346.out (by decide)) (fun _ hk => hk.2) (.slice Ao45 t335.length co45)) (fun _ hk => hk.2) (.slice Ao50 t338.length co50)) (fun _ hk => hk.2) (.slice Ao51 t341.length co51)) (fun _ h_ => h_.1))) (Kd.R_base ho1) hb); have n5_ := Aside0.mk (Kd.R_elder' (by (with_reducible repeat (first | apply Kd.R_alloc | apply Kd.R_drewN | apply Kd.R_drew)); exact (Kd.R_mono (Kd.R_far (p := ⟨gb346, 2, none⟩) (Kd.R_far (p := ⟨gb346, 1, none⟩) (Kd.R_far (p := ⟨gb346, 0, none⟩) (Kd.R_types HO331.out BK346.out (by decide)) (fun _ hk => hk.2) (.slice Ao45 t335.length co45)) (fun _ hk => hk.2) (.slice Ao50 t338.length co50)) (fun _ hk => hk.2) (.slice Ao51 t341.length co51)) (fun _ h_ => h_.1))) (Kd.R_base ho2) hb); have n6_ := Aside0.mk (Kd.R_elder' (by (with_reducible repeat (first | apply Kd.R_alloc | apply Kd.R_drewN | apply Kd.R_drew)); exact (Kd.R_mono (Kd.R_far (p := ⟨gb346, 2, none⟩) (Kd.R_far (p := ⟨gb346, 1, none⟩) (Kd.R_far (p := ⟨gb346, 0, none⟩) (Kd.R_types HO337.out BK346.out (by decide)) (fun _ hk => hk.2) (.slice Ao45 t335.length co45)) (fun _ hk => hk.2) (.slice Ao50 t338.length co50)) (fun _ hk => hk.2) (.slice Ao51 t341.length co51)) (fun _ h_ => h_.1))) (Kd.R_base ho0) hb); have n7_ := Aside0.mk (Kd.R_elder' (by (with_reducible repeat (first | apply Kd.R_alloc | apply Kd.R_drewN | apply Kd.R_drew)); exact (Kd.R_mono (Kd.R_far (p := ⟨gb346, 2, none⟩) (Kd.R_far (p := ⟨gb346, 1, none⟩) (Kd.R_far (p := ⟨gb346, 0, none⟩) (Kd.R_types HO340.out BK346.out (by decide)) (fun _ hk => hk.2) (.slice Ao45 t335.length co45)) (fun _ hk => hk.2) (.slice Ao50 t338.length co50)) (fun _ hk => hk.2) (.slice Ao51 t341.length co51)) (fun _ h_ => h_.1))) (Kd.R_base ho1) hb); have n8_ := Aside0.mk (Kd.R_elder' (by (with_reducible repeat (first | apply Kd.R_alloc | apply Kd.R_drewN | apply Kd.R_drew)); exact (Kd.R_mono (Kd.R_far (p := ⟨gb346, 2, none⟩) (Kd.R_far (p := ⟨gb346, 1, none⟩) (Kd.R_far (p := ⟨gb346, 0, none⟩) (Kd.R_types HO343.out BK346.out (by decide)) (fun _ hk => hk.2) (.slice Ao45 t335.length co45)) (fun _ hk => hk.2) (.slice Ao50 t338.length co50)) (fun _ hk => hk.2) (.slice Ao51 t341.length co51)) (fun _ h_ => h_.1))) (Kd.R_base ho2) hb); have n9_ := Aside0.mk (Kd.R_lower (Kd.R_newB (Kd.R_new' (Kd.R_new' (Kd.R_new' ho0 (Kd.R_lt (by (with_reducible repeat (first | apply Kd.R_alloc | apply Kd.R_drewN | apply Kd.R_drew)); exact (Kd.R_mono (Kd.R_far (p := ⟨gb346, 2, none⟩) (Kd.R_far (p := ⟨gb346, 1, none⟩) (Kd.R_far (p := ⟨gb346, 0, none⟩) (Kd.R_types HO314.out BK346.out (by decide)) (fun _ hk => hk.2) (.slice Ao45 t335.length co45)) (fun _ hk => hk.2) (.slice Ao50 t338.length co50)) (fun _ hk => hk.2) (.slice Ao51 t341.length co51)) (fun _ h_ => h_.1))))) (Kd.R_lt (by (with_reducible repeat (first | apply Kd.R_alloc | apply Kd.R_drewN | apply Kd.R_drew)); exact (Kd.R_mono (Kd.R_far (p := ⟨gb346, 2, none⟩) (Kd.R_far (p := ⟨gb346, 1, none⟩) (Kd.R_far (p := ⟨gb346, 0, none⟩) (Kd.R_types HO325.out BK346.out (by decide)) (fun _ hk => hk.2) (.slice Ao45 t335.length co45)) (fun _ hk => hk.2) (.slice Ao50 t338.length co50)) (fun _ hk => hk.2) (.slice Ao51 t341.length co51)) (fun _ h_ => h_.1))))) (Kd.R_lt (by (with_reducible repeat (first | apply Kd.R_alloc | apply Kd.R_drewN | apply Kd.R_drew)); exact (Kd.R_mono (Kd.R_far (p := ⟨gb346, 2, none⟩) (Kd.R_far (p := ⟨gb346, 1, none⟩) (Kd.R_far (p := ⟨gb346, 0, none⟩) (Kd.R_types HO337.out BK346.out (by decide)) (fun _ hk => hk.2) (.slice Ao45 t335.length co45)) (fun _ hk => hk.2) (.slice Ao50 t338.length co50)) (fun _ hk => hk.2) (.slice Ao51 t341.length co51)) (fun _ h_ => h_.1))))) (g := gb310) (o := .cells #[.string t321, .string t322] 39 (0, 0)) (by (with_reducible repeat (first | refine blk_drewN ?_ _ | refine blk_drew ?_ | refine blk_alloc ?_ _)); refine blk_far ?_ NB310_346.out _; (with_reducible repeat (first | refine blk_drewN ?_ _ | refine blk_drew ?_ | refine blk_alloc ?_ _)); refine blk_far ?_ NB310_346.out _; (with_reducible repeat (first | refine blk_drewN ?_ _ | refine blk_drew ?_ | refine blk_alloc ?_ _)); refine blk_far ?_ NB310_346.out _; (with_reducible repeat (first | refine blk_drewN ?_ _ | refine blk_drew ?_ | refine blk_alloc ?_ _)); exact BK310.out)) (below_size (by repeat (first | (with_reducible first | exact HB.out | apply below_alloc | apply pw_below_drewN | apply below_drew1 | refine below_set ?_ GE309.out | refine below_set ?_ GE310.out | refine below_set ?_ GE333.out | refine below_set ?_ GE346.out) | exact HB.out)))); have n10_ := Aside0.mk (Kd.R_lower (Kd.R_new' (Kd.R_new' (Kd.R_new' ho1 (Kd.R_lt (by (with_reducible repeat (first | apply Kd.R_alloc | apply Kd.R_drewN | apply Kd.R_drew)); exact (Kd.R_mono (Kd.R_far (p := ⟨gb346, 2, none⟩) (Kd.R_far (p := ⟨gb346, 1, none⟩) (Kd.R_far (p := ⟨gb346, 0, none⟩) (Kd.R_types HO317.out BK346.out (by decide)) (fun _ hk => hk.2) (.slice Ao45 t335.length co45)) (fun _ hk => hk.2) (.slice Ao50 t338.length co50)) (fun _ hk => hk.2) (.slice Ao51 t341.length co51)) (fun _ h_ => h_.1))))) (Kd.R_lt (by (with_reducible repeat (first | apply Kd.R_alloc | apply Kd.R_drewN | apply Kd.R_drew)); exact (Kd.R_mono (Kd.R_far (p := ⟨gb346, 2, none⟩) (Kd.R_far (p := ⟨gb346, 1, none⟩) (Kd.R_far (p := ⟨gb346, 0, none⟩) (Kd.R_types HO328.out BK346.out (by decide)) (fun _ hk => hk.2) (.slice Ao45 t335.length co45)) (fun _ hk => hk.2) (.slice Ao50 t338.length co50)) (fun _ hk => hk.2) (.slice Ao51 t341.length co51)) (fun _ h_ => h_.1))))) (Kd.R_lt (by (with_reducible repeat (first | apply Kd.R_alloc | apply Kd.R_drewN | apply Kd.R_drew)); exact (Kd.R_mono (Kd.R_far (p := ⟨gb346, 2, none⟩) (Kd.R_far (p := ⟨gb346, 1, none⟩) (Kd.R_far (p := ⟨gb346, 0, none⟩) (Kd.R_types HO340.out BK346.out (by decide)) (fun _ hk => hk.2) (.slice Ao45 t335.length co45)) (fun _ hk => hk.2) (.slice Ao50 t338.length co50)) (fun _ hk => hk.2) (.slice Ao51 t341.length co51)) (fun _ h_ => h_.1))))) (below_size (by repeat (first | (with_reducible first | exact HB.out | apply below_alloc | apply pw_below_drewN | apply below_drew1 | refine below_set ?_ GE309.out | refine below_set ?_ GE310.out | refine below_set ?_ GE333.out | refine below_set ?_ GE346.out) | exact HB.out)))); have n11_ := Aside0.mk (Kd.R_lower (Kd.R_new' (Kd.R_new' (Kd.R_new' ho2 (Kd.R_lt (by (with_reducible repeat (first | apply Kd.R_alloc | apply Kd.R_drewN | apply Kd.R_drew)); exact (Kd.R_mono (Kd.R_far (p := ⟨gb346, 2, none⟩) (Kd.R_far (p := ⟨gb346, 1, none⟩) (Kd.R_far (p := ⟨gb346, 0, none⟩) (Kd.R_types HO320.out BK346.out (by decide)) (fun _ hk => hk.2) (.slice Ao45 t335.length co45)) (fun _ hk => hk.2) (.slice Ao50 t338.length co50)) (fun _ hk => hk.2) (.slice Ao51 t341.length co51)) (fun _ h_ => h_.1))))) (Kd.R_lt (by (with_reducible repeat (first | apply Kd.R_alloc | apply Kd.R_drewN | apply Kd.R_drew)); exact (Kd.R_mono (Kd.R_far (p := ⟨gb346, 2, none⟩) (Kd.R_far (p := ⟨gb346, 1, none⟩) (Kd.R_far (p := ⟨gb346, 0, none⟩) (Kd.R_types HO331.out BK346.out (by decide)) (fun _ hk => hk.2) (.slice Ao45 t335.length co45)) (fun _ hk => hk.2) (.slice Ao50 t338.length co50)) (fun _ hk => hk.2) (.slice Ao51 t341.length co51)) (fun _ h_ => h_.1))))) (Kd.R_lt (by (with_reducible repeat (first | apply Kd.R_alloc | apply Kd.R_drewN | apply Kd.R_drew)); exact (Kd.R_mono (Kd.R_far (p := ⟨gb346, 2, none⟩) (Kd.R_far (p := ⟨gb346, 1, none⟩) (Kd.R_far (p := ⟨gb346, 0, none⟩) (Kd.R_types HO343.out BK346.out (by decide)) (fun _ hk => hk.2) (.slice Ao45 t335.length co45)) (fun _ hk => hk.2) (.slice Ao50 t338.length co50)) (fun _ hk => hk.2) (.slice Ao51 t341.length co51)) (fun _ h_ => h_.1))))) (below_size (by repeat (first | (with_reducible first | exact HB.out | apply below_alloc | apply pw_below_drewN | apply below_drew1 | refine below_set ?_ GE309.out | refine below_set ?_ GE310.out | refine below_set ?_ GE333.out | refine below_set ?_ GE346.out) | exact HB.out)))); have n12_ := Aside0.mk (blk_below (g := gb309) (o := .cells #[.slice Ao19 t312.length co19, .slice Ao21 t315.length co21, .slice Ao22 t318.length co22] 26 (0, 0)) (by (with_reducible repeat (first | refine blk_drewN ?_ _ | refine blk_drew ?_ | refine blk_alloc ?_ _)); refine blk_far ?_ NB309_346.out _; (with_reducible repeat (first | refine blk_drewN ?_ _ | refine blk_drew ?_ | refine blk_alloc ?_ _)); refine blk_far ?_ NB309_346.out _; (with_reducible repeat (first | refine blk_drewN ?_ _ | refine blk_drew ?_ | refine blk_alloc ?_ _)); refine blk_far ?_ NB309_346.out _; (with_reducible repeat (first | refine blk_drewN ?_ _ | refine blk_drew ?_ | refine blk_alloc ?_ _)); exact BK309.out) hb); have n13_ := Aside0.mk (blk_below (g := gb310) (o := .cells #[.string t321, .string t322] 39 (0, 0)) (by (with_reducible repeat (first | refine blk_drewN ?_ _ | refine blk_drew ?_ | refine blk_alloc ?_ _)); refine blk_far ?_ NB310_346.out _; (with_reducible repeat (first | refine blk_drewN ?_ _ | refine blk_drew ?_ | refine blk_alloc ?_ _)); refine blk_far ?_ NB310_346.out _; (with_reducible repeat (first | refine blk_drewN ?_ _ | refine blk_drew ?_ | refine blk_alloc ?_ _)); refine blk_far ?_ NB310_346.out _; (with_reducible repeat (first | refine blk_drewN ?_ _ | refine blk_drew ?_ | refine blk_alloc ?_ _)); exact BK310.out) hb); have n14_ := Aside0.mk (blk_below (g := gb333) (o := .cells #[.slice Ao33 t323.length co33, .slice Ao37 t326.length co37, .slice Ao38 t329.length co38] 26 (0, 0)) (by (with_reducible repeat (first | refine blk_drewN ?_ _ | refine blk_drew ?_ | refine blk_alloc ?_ _)); refine blk_far ?_ NB333_346.out _; (with_reducible repeat (first | refine blk_drewN ?_ _ | refine blk_drew ?_ | refine blk_alloc ?_ _)); refine blk_far ?_ NB333_346.out _; (with_reducible repeat (first | refine blk_drewN ?_ _ | refine blk_drew ?_ | refine blk_alloc ?_ _)); refine blk_far ?_ NB333_346.out _; (with_reducible repeat (first | refine blk_drewN ?_ _ | refine blk_drew ?_ | refine blk_alloc ?_ _)); exact BK333.out) hb); have n15_ := Aside0.mk (blk_below (g := gb346) (o := .cells #[.slice Ao45 t335.length co45, .slice Ao50 t338.length co50, .slice Ao51 t341.length co51] 26 (0, 0)) (by (with_reducible repeat (first | refine blk_drewN ?_ _ | refine blk_drew ?_ | refine blk_alloc ?_ _)); refine blk_put (cs := #[.slice Ao45 t335.length co45, .slice Ao50 t338.length co50, .slice none 0 0]) ?_ 2 _ rfl; (with_reducible repeat (first | refine blk_drewN ?_ _ | refine blk_drew ?_ | refine blk_alloc ?_ _)); refine blk_put (cs := #[.slice Ao45 t335.length co45, .slice none 0 0, .slice none 0 0]) ?_ 1 _ rfl; (with_reducible repeat (first | refine blk_drewN ?_ _ | refine blk_drew ?_ | refine blk_alloc ?_ _)); refine blk_put (cs := #[.slice none 0 0, .slice none 0 0, .slice none 0 0]) ?_ 0 _ rfl; (with_reducible repeat (first | refine blk_drewN ?_ _ | refine blk_drew ?_ | refine blk_alloc ?_ _)); exact BK346.out) hb); have n16_ := Aside0.mk (below_step (by repeat (first | (with_reducible first | exact HB.out | apply below_alloc | apply pw_below_drewN | apply below_drew1 | refine below_set ?_ GE309.out | refine below_set ?_ GE310.out | refine below_set ?_ GE333.out | refine below_set ?_ GE346.out) | exact HB.out)) hb); clear HO314; clear HO317; clear HO320; clear HO325; clear HO328; clear HO331; clear HO337; clear HO340; clear HO343; clear BK309; clear BK310; clear BK333; clear BK346; clear HB; have HO314 := n0_; have HO317 := n1_; have HO320 := n2_; have HO325 := n3_; have HO328 := n4_; have HO331 := n5_; have HO337 := n6_; have HO340 := n7_; have HO343 := n8_; have HO349 := n9_; have HO352 := n10_; have HO355 := n11_; have BK309 := n12_; have BK310 := n13_; have BK333 := n14_; have BK346 := n15_; have HB := n16_; clear n0_ n1_ n2_ n3_ n4_ n5_ n6_ n7_ n8_ n9_ n10_ n11_ n12_ n13_ n14_ n15_ n16_; (try clear hb); (try clear hb2); (try clear hk); (try clear hi); (try clear ho0); (try clear ho1); (try clear ho2)) | ((with_reducible refine gate_dst (N := 12) rfl ?_); (try (refine gate_guard (by rfl) ?_; dsimp only)); refine box_event ?hg (N := 12) ?hd (cs := #[.slice none 0 0, .slice none 0 0, .slice none 0 0]) (t := 26) ?hr ?_; (case hd => rfl); (case hg => rfl); (case hr => first | (go_simp; done) | (go_simp; rfl)); intro gb358 hg w55 hbox hb; have n0_ := Aside0.mk (Kd.R_below (by (with_reducible repeat (first | apply Kd.R_alloc | apply Kd.R_drewN | apply Kd.R_drew)); exact HO314.out) hb); have n1_ := Aside0.mk (Kd.R_below (by (with_reducible repeat (first | apply Kd.R_alloc | apply Kd.R_drewN | apply Kd.R_drew)); exact HO317.out) hb); have n2_ := Aside0.mk (Kd.R_below (by (with_reducible repeat (first | apply Kd.R_alloc | apply Kd.R_drewN | apply Kd.R_drew)); exact HO320.out) hb); have n3_ := Aside0.mk (Kd.R_below (by (with_reducible repeat (first | apply Kd.R_alloc | apply Kd.R_drewN | apply Kd.R_drew)); exact HO325.out) hb); have n4_ := Aside0.mk (Kd.R_below (by (with_reducible repeat (first | apply Kd.R_alloc | apply Kd.R_drewN | apply Kd.R_drew)); exact HO328.out) hb); have n5_ := Aside0.mk (Kd.R_below (by (with_reducible repeat (first | apply Kd.R_alloc | apply Kd.R_drewN | apply Kd.R_drew)); exact HO331.out) hb); have n6_ := Aside0.mk (Kd.R_below (by (with_reducible repeat (first | apply Kd.R_alloc | apply Kd.R_drewN | apply Kd.R_drew)); exact HO337.out) hb); have n7_ := Aside0.mk (Kd.R_below (by (with_reducible repeat (first | apply Kd.R_alloc | apply Kd.R_drewN | apply Kd.R_drew)); exact HO340.out) hb); have n8_ := Aside0.mk (Kd.R_below (by (with_reducible repeat (first | apply Kd.R_alloc | apply Kd.R_drewN | apply Kd.R_drew)); exact HO343.out) hb); have n9_ := Aside0.mk (Kd.R_below (by (with_reducible repeat (first | apply Kd.R_alloc | apply Kd.R_drewN | apply Kd.R_drew)); exact HO349.out) hb); have n10_ := Aside0.mk (Kd.R_below (by (with_reducible repeat (first | apply Kd.R_alloc | apply Kd.R_drewN | apply Kd.R_drew)); exact HO352.out) hb); have n11_ := Aside0.mk (Kd.R_below (by (with_reducible repeat (first | apply Kd.R_alloc | apply Kd.R_drewN | apply Kd.R_drew)); exact HO355.out) hb); have n12_ := Aside0.mk (blk_below (g := gb309) (o := .cells #[.slice Ao19 t312.length co19, .slice Ao21 t315.length co21, .slice Ao22 t318.length co22] 26 (0, 0)) (by (with_reducible repeat (first | refine blk_drewN ?_ _ | refine blk_drew ?_ | refine blk_alloc ?_ _)); exact BK309.out) hb); have n13_ := Aside0.mk (blk_below (g := gb310) (o := .cells #[.string t321, .string t322] 39 (0, 0)) (by (with_reducible repeat (first | refine blk_drewN ?_ _ | refine blk_drew ?_ | refine blk_alloc ?_ _)); exact BK310.out) hb); have n14_ := Aside0.mk (blk_below (g := gb333) (o := .cells #[.slice Ao33 t323.length co33, .slice Ao37 t326.length co37, .slice Ao38 t329.length co38] 26 (0, 0)) (by (with_reducible repeat (first | refine blk_drewN ?_ _ | refine blk_drew ?_ | refine blk_alloc ?_ _)); exact BK333.out) hb); have n15_ := Aside0.mk (blk_below (g := gb346) (o := .cells #[.slice Ao45 t335.length co45, .slice Ao50 t338.length co50, .slice Ao51 t341.length co51] 26 (0, 0)) (by (with_reducible repeat (first | refine blk_drewN ?_ _ | refine blk_drew ?_ | refine blk_alloc ?_ _)); exact BK346.out) hb); have n16_ := Aside0.mk (below_step (by repeat (first | (with_reducible first | exact HB.out | apply below_alloc | apply pw_below_drewN | apply below_drew1 | refine below_set ?_ GE309.out | refine below_set ?_ GE310.out | refine below_set ?_ GE333.out | refine below_set ?_ GE346.out) | exact HB.out)) hb); have n17_ := Aside0.mk (hbox); have n18_ := Aside0.mk ((by rw [hg]; exact (below_size (by repeat (first | (with_reducible first | exact HB.out | apply below_alloc | apply pw_below_drewN | apply below_drew1 | refine below_set ?_ GE309.out | refine below_set ?_ GE310.out | refine below_set ?_ GE333.out | refine below_set ?_ GE346.out) | exact HB.out))) : w.heap.size ≤ gb358)); have n19_ := Aside0.mk ((by rw [hg]; exact (below_size (by repeat (first | (with_reducible first | exact HB.out | apply below_alloc | apply pw_below_drewN | apply below_drew1 | refine below_set ?_ GE309.out | refine below_set ?_ GE310.out | refine below_set ?_ GE333.out | refine below_set ?_ GE346.out) | exact HB.out))) : w.heap.size ≤ gb358)); have n20_ := Aside0.mk ((by rw [hg]; exact Nat.ne_of_lt (blk_lt (g := gb309) (o := .cells #[.slice Ao19 t312.length co19, .slice Ao21 t315.length co21, .slice Ao22 t318.length co22] 26 (0, 0)) (by (with_reducible repeat (first | refine blk_drewN ?_ _ | refine blk_drew ?_ | refine blk_alloc ?_ _)); exact BK309.out)) : gb309 ≠ gb358)); have n21_ := Aside0.mk ((by rw [hg]; exact Nat.ne_of_gt (blk_lt (g := gb309) (o := .cells #[.slice Ao19 t312.length co19, .slice Ao21 t315.length co21, .slice Ao22 t318.length co22] 26 (0, 0)) (by (with_reducible repeat (first | refine blk_drewN ?_ _ | refine blk_drew ?_ | refine blk_alloc ?_ _)); exact BK309.out)) : gb358 ≠ gb309)); have n22_ := Aside0.mk ((by rw [hg]; exact Nat.ne_of_lt (blk_lt (g := gb310) (o := .cells #[.string t321, .string t322] 39 (0, 0)) (by (with_reducible repeat (first | refine blk_drewN ?_ _ | refine blk_drew ?_ | refine blk_alloc ?_ _)); exact BK310.out)) : gb310 ≠ gb358)); have n23_ := Aside0.mk ((by rw [hg]; exact Nat.ne_of_gt (blk_lt (g := gb310) (o := .cells #[.string t321, .string t322] 39 (0, 0)) (by (with_reducible repeat (first | refine blk_drewN ?_ _ | refine blk_drew ?_ | refine blk_alloc ?_ _)); exact BK310.out)) : gb358 ≠ gb310)); have n24_ := Aside0.mk ((by rw [hg]; exact Nat.ne_of_lt (blk_lt (g := gb333) (o := .cells #[.slice Ao33 t323.length co33, .slice Ao37 t326.length co37, .slice Ao38 t329.length co38] 26 (0, 0)) (by (with_reducible repeat (first | refine blk_drewN ?_ _ | refine blk_drew ?_ | refine blk_alloc ?_ _)); exact BK333.out)) : gb333 ≠ gb358)); have n25_ := Aside0.mk ((by rw [hg]; exact Nat.ne_of_gt (blk_lt (g := gb333) (o := .cells #[.slice Ao33 t323.length co33, .slice Ao37 t326.length co37, .slice Ao38 t329.length co38] 26 (0, 0)) (by (with_reducible repeat (first | refine blk_drewN ?_ _ | refine blk_drew ?_ | refine blk_alloc ?_ _)); exact BK333.out)) : gb358 ≠ gb333)); have n26_ := Aside0.mk ((by rw [hg]; exact Nat.ne_of_lt (blk_lt (g := gb346) (o := .cells #[.slice Ao45 t335.length co45, .slice Ao50 t338.length co50, .slice Ao51 t341.length co51] 26 (0, 0)) (by (with_reducible repeat (first | refine blk_drewN ?_ _ | refine blk_drew ?_ | refine blk_alloc ?_ _)); exact BK346.out)) : gb346 ≠ gb358)); have n27_ := Aside0.mk ((by rw [hg]; exact Nat.ne_of_gt (blk_lt (g := gb346) (o := .cells #[.slice Ao45 t335.length co45, .slice Ao50 t338.length co50, .slice Ao51 t341.length co51] 26 (0, 0)) (by (with_reducible repeat (first | refine blk_drewN ?_ _ | refine blk_drew ?_ | refine blk_alloc ?_ _)); exact BK346.out)) : gb358 ≠ gb346)); clear HO314; clear HO317; clear HO320; clear HO325; clear HO328; clear HO331; clear HO337; clear HO340; clear HO343; clear HO349; clear HO352; clear HO355; clear BK309; clear BK310; clear BK333; clear BK346; clear HB; have HO314 := n0_; have HO317 := n1_; have HO320 := n2_; have HO325 := n3_; have HO328 := n4_; have HO331 := n5_; have HO337 := n6_; have HO340 := n7_; have HO343 := n8_; have HO349 := n9_; have HO352 := n10_; have HO355 := n11_; have BK309 := n12_; have BK310 := n13_; have BK333 := n14_; have BK346 := n15_; have HB := n16_; have BK358 := n17_; have GW358 := n18_; have GE358 := n19_; have NB309_358 := n20_; have NB358_309 := n21_; have NB310_358 := n22_; have NB358_310 := n23_; have NB333_358 := n24_; have NB358_333 := n25_; have NB346_358 := n26_; have NB358_346 := n27_; clear n0_ n1_ n2_ n3_ n4_ n5_ n6_ n7_ n8_ n9_ n10_ n11_ n12_ n13_ n14_ n15_ n16_ n17_ n18_ n19_ n20_ n21_ n22_ n23_ n24_ n25_ n26_ n27_; clear hb hbox hg; obtain ⟨Ao56, co56, eo56⟩ := Kd.R_slice HO349.out; subst eo56; have hnb57 := NB358_309.out; have hnc57 := NB309_358.out; have hnb58 := NB358_310.out; have hnc58 := NB310_358.out; have hnb59 := NB358_333.out; have hnc59 := NB333_358.out; have hnb60 := NB358_346.out; have hnc60 := NB346_358.out; have hcz61_0 : w55.cell? ⟨gb358, 0, none⟩ = some (.slice none 0 0) := (blk_cell BK358.out 0).trans rfl; have hcz61_1 : w55.cell? ⟨gb358, 1, none⟩ = some (.slice none 0 0) := (blk_cell BK358.out 1).trans rfl; have hcz61_2 : w55.cell? ⟨gb358, 2, none⟩ = some (.slice none 0 0) := (blk_cell BK358.out 2).trans rfl; have hfz61_0 := blk_frozen BK358.out 0; have hfz61_1 := blk_frozen BK358.out 1; have hfz61_2 := blk_frozen BK358.out 2; obtain ⟨Ao62, co62, eo62⟩ := Kd.R_slice HO352.out; subst eo62; obtain ⟨Ao63, co63, eo63⟩ := Kd.R_slice HO355.out; subst eo63))
  (try simp only [Act.put, List.setIfInBounds_toArray, List.set_cons_zero, List.set_cons_succ])
  go_cut [74] (fun v74 wc => ∃ (kq : Nat) (x74_11 : Bool), v74 = .bool x74_11 ∧ Aside0 (bazaarlaw06_NodeFinds.j0 kq t311 t334 t344 t345 t356 t357 x74_11 t312 t315 t318 t321 t322 t323 t326 t329 t335 t338 t341 t347 t350 t353 = some r) ∧ Aside0 (kq ≤ k) ∧ Aside0 (Kd.R k39 39 wc w.heap.size (fun k_ => some k_ ≠ ((.slice Ao33 t323.length co33) : Value).ownBlock ∧ some k_ ≠ ((.slice Ao45 t335.length co45) : Value).ownBlock ∧ some k_ ≠ ((.slice Ao56 t347.length co56) : Value).ownBlock ∧ k_ ≠ gb310) (.slice Ao19 t312.length co19) t312) ∧ Aside0 (Kd.R Kd.string 9 wc w.heap.size (fun k_ => some k_ ≠ ((.slice Ao37 t326.length co37) : Value).ownBlock ∧ some k_ ≠ ((.slice Ao50 t338.length co50) : Value).ownBlock ∧ some k_ ≠ ((.slice Ao62 t350.length co62) : Value).ownBlock) (.slice Ao21 t315.length co21) t315) ∧ Aside0 (Kd.R (Kd.int .u32) 65 wc w.heap.size (fun k_ => some k_ ≠ ((.slice Ao38 t329.length co38) : Value).ownBlock ∧ some k_ ≠ ((.slice Ao51 t341.length co51) : Value).ownBlock ∧ some k_ ≠ ((.slice Ao63 t353.length co63) : Value).ownBlock) (.slice Ao22 t318.length co22) t318) ∧ Aside0 (Kd.R k39 39 wc w.heap.size (fun k_ => some k_ ≠ ((.slice Ao19 t312.length co19) : Value).ownBlock ∧ some k_ ≠ ((.slice Ao45 t335.length co45) : Value).ownBlock ∧ some k_ ≠ ((.slice Ao56 t347.length co56) : Value).ownBlock ∧ k_ ≠ gb310) (.slice Ao33 t323.length co33) t323) ∧ Aside0 (Kd.R Kd.string 9 wc w.heap.size (fun k_ => some k_ ≠ ((.slice Ao21 t315.length co21) : Value).ownBlock ∧ some k_ ≠ ((.slice Ao50 t338.length co50) : Value).ownBlock ∧ some k_ ≠ ((.slice Ao62 t350.length co62) : Value).ownBlock) (.slice Ao37 t326.length co37) t326) ∧ Aside0 (Kd.R (Kd.int .u32) 65 wc w.heap.size (fun k_ => some k_ ≠ ((.slice Ao22 t318.length co22) : Value).ownBlock ∧ some k_ ≠ ((.slice Ao51 t341.length co51) : Value).ownBlock ∧ some k_ ≠ ((.slice Ao63 t353.length co63) : Value).ownBlock) (.slice Ao38 t329.length co38) t329) ∧ Aside0 (Kd.R k39 39 wc w.heap.size (fun k_ => some k_ ≠ ((.slice Ao19 t312.length co19) : Value).ownBlock ∧ some k_ ≠ ((.slice Ao33 t323.length co33) : Value).ownBlock ∧ some k_ ≠ ((.slice Ao56 t347.length co56) : Value).ownBlock ∧ k_ ≠ gb310) (.slice Ao45 t335.length co45) t335) ∧ Aside0 (Kd.R Kd.string 9 wc w.heap.size (fun k_ => some k_ ≠ ((.slice Ao21 t315.length co21) : Value).ownBlock ∧ some k_ ≠ ((.slice Ao37 t326.length co37) : Value).ownBlock ∧ some k_ ≠ ((.slice Ao62 t350.length co62) : Value).ownBlock) (.slice Ao50 t338.length co50) t338) ∧ Aside0 (Kd.R (Kd.int .u32) 65 wc w.heap.size (fun k_ => some k_ ≠ ((.slice Ao22 t318.length co22) : Value).ownBlock ∧ some k_ ≠ ((.slice Ao38 t329.length co38) : Value).ownBlock ∧ some k_ ≠ ((.slice Ao63 t353.length co63) : Value).ownBlock) (.slice Ao51 t341.length co51) t341) ∧ Aside0 (Kd.R k39 39 wc w.heap.size (fun k_ => some k_ ≠ ((.slice Ao19 t312.length co19) : Value).ownBlock ∧ some k_ ≠ ((.slice Ao33 t323.length co33) : Value).ownBlock ∧ some k_ ≠ ((.slice Ao45 t335.length co45) : Value).ownBlock ∧ k_ ≠ gb310) (.slice Ao56 t347.length co56) t347) ∧ Aside0 (Kd.R Kd.string 9 wc w.heap.size (fun k_ => some k_ ≠ ((.slice Ao21 t315.length co21) : Value).ownBlock ∧ some k_ ≠ ((.slice Ao37 t326.length co37) : Value).ownBlock ∧ some k_ ≠ ((.slice Ao50 t338.length co50) : Value).ownBlock) (.slice Ao62 t350.length co62) t350) ∧ Aside0 (Kd.R (Kd.int .u32) 65 wc w.heap.size (fun k_ => some k_ ≠ ((.slice Ao22 t318.length co22) : Value).ownBlock ∧ some k_ ≠ ((.slice Ao38 t329.length co38) : Value).ownBlock ∧ some k_ ≠ ((.slice Ao51 t341.length co51) : Value).ownBlock) (.slice Ao63 t353.length co63) t353) ∧ Aside0 (wc.heap[gb309]? = some (.cells #[(.slice Ao19 t312.length co19), (.slice Ao21 t315.length co21), (.slice Ao22 t318.length co22)] 26 (0, 0))) ∧ Aside0 (wc.heap[gb310]? = some (.cells #[.string t321, .string t322] 39 (0, 0))) ∧ Aside0 (wc.heap[gb333]? = some (.cells #[(.slice Ao33 t323.length co33), (.slice Ao37 t326.length co37), (.slice Ao38 t329.length co38)] 26 (0, 0))) ∧ Aside0 (wc.heap[gb346]? = some (.cells #[(.slice Ao45 t335.length co45), (.slice Ao50 t338.length co50), (.slice Ao51 t341.length co51)] 26 (0, 0))) ∧ Aside0 (wc.heap[gb358]? = some (.cells #[(.slice Ao56 t347.length co56), (.slice Ao62 t350.length co62), (.slice Ao63 t353.length co63)] 26 (0, 0))) ∧ Aside0 (Below w.heap.size w wc))
  case first =>
    have H := HC12.out
    clear HC12
    by_cases c64 : t334 < 0
    · rw [if_pos c64] at H
      have c64b0 : decide (t334 < 0) = true := decide_eq_true c64
      clear c64
      (first | rw [c64b0] | (simp only [i64_w, i32_w]; rw [c64b0]) | skip)
      have H' := Aside0.mk H
      clear H
      go_wp2
      go_meet
      case rel => exact ⟨_, (true), (by first | rfl | (simp; done) | (simp [*]; done)), H', ⟨by first | omega | exact Nat.le_refl _⟩, ⟨by (with_reducible repeat (first | apply Kd.R_alloc | apply Kd.R_drewN | apply Kd.R_drew)); exact Kd.R_mono (Kd.R_far (p := ⟨gb358, 2, none⟩) (Kd.R_far (p := ⟨gb358, 1, none⟩) (Kd.R_far (p := ⟨gb358, 0, none⟩) (Kd.R_types HO314.out BK358.out (by decide)) (fun _ hk => hk.2) (.slice Ao56 t347.length co56)) (fun _ hk => hk.2) (.slice Ao62 t350.length co62)) (fun _ hk => hk.2) (.slice Ao63 t353.length co63)) (fun _ hk => ⟨hk.1.1.1.2, ⟨hk.1.1.2, ⟨hk.1.2, hk.1.1.1.1⟩⟩⟩)⟩, ⟨by (with_reducible repeat (first | apply Kd.R_alloc | apply Kd.R_drewN | apply Kd.R_drew)); exact Kd.R_mono (Kd.R_far (p := ⟨gb358, 2, none⟩) (Kd.R_far (p := ⟨gb358, 1, none⟩) (Kd.R_far (p := ⟨gb358, 0, none⟩) (Kd.R_types HO317.out BK358.out (by decide)) (fun _ hk => hk.2) (.slice Ao56 t347.length co56)) (fun _ hk => hk.2) (.slice Ao62 t350.length co62)) (fun _ hk => hk.2) (.slice Ao63 t353.length co63)) (fun _ hk => ⟨hk.1.1.1.2, ⟨hk.1.1.2, hk.1.2⟩⟩)⟩, ⟨by (with_reducible repeat (first | apply Kd.R_alloc | apply Kd.R_drewN | apply Kd.R_drew)); exact Kd.R_mono (Kd.R_far (p := ⟨gb358, 2, none⟩) (Kd.R_far (p := ⟨gb358, 1, none⟩) (Kd.R_far (p := ⟨gb358, 0, none⟩) (Kd.R_types HO320.out BK358.out (by decide)) (fun _ hk => hk.2) (.slice Ao56 t347.length co56)) (fun _ hk => hk.2) (.slice Ao62 t350.length co62)) (fun _ hk => hk.2) (.slice Ao63 t353.length co63)) (fun _ hk => ⟨hk.1.1.1.2, ⟨hk.1.1.2, hk.1.2⟩⟩)⟩, ⟨by (with_reducible repeat (first | apply Kd.R_alloc | apply Kd.R_drewN | apply Kd.R_drew)); exact Kd.R_mono (Kd.R_far (p := ⟨gb358, 2, none⟩) (Kd.R_far (p := ⟨gb358, 1, none⟩) (Kd.R_far (p := ⟨gb358, 0, none⟩) (Kd.R_types HO325.out BK358.out (by decide)) (fun _ hk => hk.2) (.slice Ao56 t347.length co56)) (fun _ hk => hk.2) (.slice Ao62 t350.length co62)) (fun _ hk => hk.2) (.slice Ao63 t353.length co63)) (fun _ hk => ⟨hk.1.1.1.1.2, ⟨hk.1.1.2, ⟨hk.1.2, hk.1.1.1.2⟩⟩⟩)⟩, ⟨by (with_reducible repeat (first | apply Kd.R_alloc | apply Kd.R_drewN | apply Kd.R_drew)); exact Kd.R_mono (Kd.R_far (p := ⟨gb358, 2, none⟩) (Kd.R_far (p := ⟨gb358, 1, none⟩) (Kd.R_far (p := ⟨gb358, 0, none⟩) (Kd.R_types HO328.out BK358.out (by decide)) (fun _ hk => hk.2) (.slice Ao56 t347.length co56)) (fun _ hk => hk.2) (.slice Ao62 t350.length co62)) (fun _ hk => hk.2) (.slice Ao63 t353.length co63)) (fun _ hk => ⟨hk.1.1.1.2, ⟨hk.1.1.2, hk.1.2⟩⟩)⟩, ⟨by (with_reducible repeat (first | apply Kd.R_alloc | apply Kd.R_drewN | apply Kd.R_drew)); exact Kd.R_mono (Kd.R_far (p := ⟨gb358, 2, none⟩) (Kd.R_far (p := ⟨gb358, 1, none⟩) (Kd.R_far (p := ⟨gb358, 0, none⟩) (Kd.R_types HO331.out BK358.out (by decide)) (fun _ hk => hk.2) (.slice Ao56 t347.length co56)) (fun _ hk => hk.2) (.slice Ao62 t350.length co62)) (fun _ hk => hk.2) (.slice Ao63 t353.length co63)) (fun _ hk => ⟨hk.1.1.1.2, ⟨hk.1.1.2, hk.1.2⟩⟩)⟩, ⟨by (with_reducible repeat (first | apply Kd.R_alloc | apply Kd.R_drewN | apply Kd.R_drew)); exact Kd.R_mono (Kd.R_far (p := ⟨gb358, 2, none⟩) (Kd.R_far (p := ⟨gb358, 1, none⟩) (Kd.R_far (p := ⟨gb358, 0, none⟩) (Kd.R_types HO337.out BK358.out (by decide)) (fun _ hk => hk.2) (.slice Ao56 t347.length co56)) (fun _ hk => hk.2) (.slice Ao62 t350.length co62)) (fun _ hk => hk.2) (.slice Ao63 t353.length co63)) (fun _ hk => ⟨hk.1.1.1.1.2, ⟨hk.1.1.1.2, ⟨hk.1.2, hk.1.1.2⟩⟩⟩)⟩, ⟨by (with_reducible repeat (first | apply Kd.R_alloc | apply Kd.R_drewN | apply Kd.R_drew)); exact Kd.R_mono (Kd.R_far (p := ⟨gb358, 2, none⟩) (Kd.R_far (p := ⟨gb358, 1, none⟩) (Kd.R_far (p := ⟨gb358, 0, none⟩) (Kd.R_types HO340.out BK358.out (by decide)) (fun _ hk => hk.2) (.slice Ao56 t347.length co56)) (fun _ hk => hk.2) (.slice Ao62 t350.length co62)) (fun _ hk => hk.2) (.slice Ao63 t353.length co63)) (fun _ hk => ⟨hk.1.1.1.2, ⟨hk.1.1.2, hk.1.2⟩⟩)⟩, ⟨by (with_reducible repeat (first | apply Kd.R_alloc | apply Kd.R_drewN | apply Kd.R_drew)); exact Kd.R_mono (Kd.R_far (p := ⟨gb358, 2, none⟩) (Kd.R_far (p := ⟨gb358, 1, none⟩) (Kd.R_far (p := ⟨gb358, 0, none⟩) (Kd.R_types HO343.out BK358.out (by decide)) (fun _ hk => hk.2) (.slice Ao56 t347.length co56)) (fun _ hk => hk.2) (.slice Ao62 t350.length co62)) (fun _ hk => hk.2) (.slice Ao63 t353.length co63)) (fun _ hk => ⟨hk.1.1.1.2, ⟨hk.1.1.2, hk.1.2⟩⟩)⟩, ⟨by (with_reducible repeat (first | apply Kd.R_alloc | apply Kd.R_drewN | apply Kd.R_drew)); exact Kd.R_mono (Kd.R_far (p := ⟨gb358, 2, none⟩) (Kd.R_far (p := ⟨gb358, 1, none⟩) (Kd.R_far (p := ⟨gb358, 0, none⟩) (Kd.R_types HO349.out BK358.out (by decide)) (fun _ hk => hk.2) (.slice Ao56 t347.length co56)) (fun _ hk => hk.2) (.slice Ao62 t350.length co62)) (fun _ hk => hk.2) (.slice Ao63 t353.length co63)) (fun _ hk => ⟨hk.1.1.1.1.2, ⟨hk.1.1.1.2, ⟨hk.1.1.2, hk.1.2⟩⟩⟩)⟩, ⟨by (with_reducible repeat (first | apply Kd.R_alloc | apply Kd.R_drewN | apply Kd.R_drew)); exact Kd.R_mono (Kd.R_far (p := ⟨gb358, 2, none⟩) (Kd.R_far (p := ⟨gb358, 1, none⟩) (Kd.R_far (p := ⟨gb358, 0, none⟩) (Kd.R_types HO352.out BK358.out (by decide)) (fun _ hk => hk.2) (.slice Ao56 t347.length co56)) (fun _ hk => hk.2) (.slice Ao62 t350.length co62)) (fun _ hk => hk.2) (.slice Ao63 t353.length co63)) (fun _ hk => ⟨hk.1.1.1.2, ⟨hk.1.1.2, hk.1.2⟩⟩)⟩, ⟨by (with_reducible repeat (first | apply Kd.R_alloc | apply Kd.R_drewN | apply Kd.R_drew)); exact Kd.R_mono (Kd.R_far (p := ⟨gb358, 2, none⟩) (Kd.R_far (p := ⟨gb358, 1, none⟩) (Kd.R_far (p := ⟨gb358, 0, none⟩) (Kd.R_types HO355.out BK358.out (by decide)) (fun _ hk => hk.2) (.slice Ao56 t347.length co56)) (fun _ hk => hk.2) (.slice Ao62 t350.length co62)) (fun _ hk => hk.2) (.slice Ao63 t353.length co63)) (fun _ hk => ⟨hk.1.1.1.2, ⟨hk.1.1.2, hk.1.2⟩⟩)⟩, ⟨by (with_reducible repeat (first | refine blk_drewN ?_ _ | refine blk_drew ?_ | refine blk_alloc ?_ _)); refine blk_far ?_ NB309_358.out _; (with_reducible repeat (first | refine blk_drewN ?_ _ | refine blk_drew ?_ | refine blk_alloc ?_ _)); refine blk_far ?_ NB309_358.out _; (with_reducible repeat (first | refine blk_drewN ?_ _ | refine blk_drew ?_ | refine blk_alloc ?_ _)); refine blk_far ?_ NB309_358.out _; (with_reducible repeat (first | refine blk_drewN ?_ _ | refine blk_drew ?_ | refine blk_alloc ?_ _)); exact BK309.out⟩, ⟨by (with_reducible repeat (first | refine blk_drewN ?_ _ | refine blk_drew ?_ | refine blk_alloc ?_ _)); refine blk_far ?_ NB310_358.out _; (with_reducible repeat (first | refine blk_drewN ?_ _ | refine blk_drew ?_ | refine blk_alloc ?_ _)); refine blk_far ?_ NB310_358.out _; (with_reducible repeat (first | refine blk_drewN ?_ _ | refine blk_drew ?_ | refine blk_alloc ?_ _)); refine blk_far ?_ NB310_358.out _; (with_reducible repeat (first | refine blk_drewN ?_ _ | refine blk_drew ?_ | refine blk_alloc ?_ _)); exact BK310.out⟩, ⟨by (with_reducible repeat (first | refine blk_drewN ?_ _ | refine blk_drew ?_ | refine blk_alloc ?_ _)); refine blk_far ?_ NB333_358.out _; (with_reducible repeat (first | refine blk_drewN ?_ _ | refine blk_drew ?_ | refine blk_alloc ?_ _)); refine blk_far ?_ NB333_358.out _; (with_reducible repeat (first | refine blk_drewN ?_ _ | refine blk_drew ?_ | refine blk_alloc ?_ _)); refine blk_far ?_ NB333_358.out _; (with_reducible repeat (first | refine blk_drewN ?_ _ | refine blk_drew ?_ | refine blk_alloc ?_ _)); exact BK333.out⟩, ⟨by (with_reducible repeat (first | refine blk_drewN ?_ _ | refine blk_drew ?_ | refine blk_alloc ?_ _)); refine blk_far ?_ NB346_358.out _; (with_reducible repeat (first | refine blk_drewN ?_ _ | refine blk_drew ?_ | refine blk_alloc ?_ _)); refine blk_far ?_ NB346_358.out _; (with_reducible repeat (first | refine blk_drewN ?_ _ | refine blk_drew ?_ | refine blk_alloc ?_ _)); refine blk_far ?_ NB346_358.out _; (with_reducible repeat (first | refine blk_drewN ?_ _ | refine blk_drew ?_ | refine blk_alloc ?_ _)); exact BK346.out⟩, ⟨by (with_reducible repeat (first | refine blk_drewN ?_ _ | refine blk_drew ?_ | refine blk_alloc ?_ _)); refine blk_put (cs := #[.slice Ao56 t347.length co56, .slice Ao62 t350.length co62, .slice none 0 0]) ?_ 2 _ rfl; (with_reducible repeat (first | refine blk_drewN ?_ _ | refine blk_drew ?_ | refine blk_alloc ?_ _)); refine blk_put (cs := #[.slice Ao56 t347.length co56, .slice none 0 0, .slice none 0 0]) ?_ 1 _ rfl; (with_reducible repeat (first | refine blk_drewN ?_ _ | refine blk_drew ?_ | refine blk_alloc ?_ _)); refine blk_put (cs := #[.slice none 0 0, .slice none 0 0, .slice none 0 0]) ?_ 0 _ rfl; (with_reducible repeat (first | refine blk_drewN ?_ _ | refine blk_drew ?_ | refine blk_alloc ?_ _)); exact BK358.out⟩, ⟨by repeat (first | (with_reducible first | exact HB.out | apply below_alloc | apply pw_below_drewN | apply below_drew1 | refine below_set ?_ GE309.out | refine below_set ?_ GE310.out | refine below_set ?_ GE333.out | refine below_set ?_ GE346.out | refine below_set ?_ GE358.out) | exact HB.out)⟩⟩
    · rw [if_neg c64] at H
      have c64b0 : decide (t334 < 0) = false := decide_eq_false c64
      clear c64
      (first | rw [c64b0] | (simp only [i64_w, i32_w]; rw [c64b0]) | skip)
      by_cases c65 : t334 ≥ (t323.length : Int)
      · rw [if_pos c65] at H
        have c65b0 : decide ((t323.length : Int) ≤ t334) = true := decide_eq_true c65
        clear c65
        have H' := Aside0.mk H
        clear H
        have hnb66 := NB333_309.out
        have hnc66 := NB309_333.out
        have hnb67 := NB333_310.out
        have hnc67 := NB310_333.out
        have hnb68 := NB333_346.out
        have hnc68 := NB346_333.out
        have hnb69 := NB333_358.out
        have hnc69 := NB358_333.out
        have hcz70_0 : w55.cell? ⟨gb333, 0, none⟩ = some (.slice Ao33 t323.length co33) := (blk_cell BK333.out 0).trans rfl
        have hcz70_1 : w55.cell? ⟨gb333, 1, none⟩ = some (.slice Ao37 t326.length co37) := (blk_cell BK333.out 1).trans rfl
        have hcz70_2 : w55.cell? ⟨gb333, 2, none⟩ = some (.slice Ao38 t329.length co38) := (blk_cell BK333.out 2).trans rfl
        have hfz70_0 := blk_frozen BK333.out 0
        have hfz70_1 := blk_frozen BK333.out 1
        have hfz70_2 := blk_frozen BK333.out 2
        go_wp2
        go_meet
        case rel => exact ⟨_, (true), (by first | rfl | (simp; done) | (simp [*]; done)), H', ⟨by first | omega | exact Nat.le_refl _⟩, ⟨by (with_reducible repeat (first | apply Kd.R_alloc | apply Kd.R_drewN | apply Kd.R_drew)); exact Kd.R_mono (Kd.R_far (p := ⟨gb358, 2, none⟩) (Kd.R_far (p := ⟨gb358, 1, none⟩) (Kd.R_far (p := ⟨gb358, 0, none⟩) (Kd.R_types HO314.out BK358.out (by decide)) (fun _ hk => hk.2) (.slice Ao56 t347.length co56)) (fun _ hk => hk.2) (.slice Ao62 t350.length co62)) (fun _ hk => hk.2) (.slice Ao63 t353.length co63)) (fun _ hk => ⟨hk.1.1.1.2, ⟨hk.1.1.2, ⟨hk.1.2, hk.1.1.1.1⟩⟩⟩)⟩, ⟨by (with_reducible repeat (first | apply Kd.R_alloc | apply Kd.R_drewN | apply Kd.R_drew)); exact Kd.R_mono (Kd.R_far (p := ⟨gb358, 2, none⟩) (Kd.R_far (p := ⟨gb358, 1, none⟩) (Kd.R_far (p := ⟨gb358, 0, none⟩) (Kd.R_types HO317.out BK358.out (by decide)) (fun _ hk => hk.2) (.slice Ao56 t347.length co56)) (fun _ hk => hk.2) (.slice Ao62 t350.length co62)) (fun _ hk => hk.2) (.slice Ao63 t353.length co63)) (fun _ hk => ⟨hk.1.1.1.2, ⟨hk.1.1.2, hk.1.2⟩⟩)⟩, ⟨by (with_reducible repeat (first | apply Kd.R_alloc | apply Kd.R_drewN | apply Kd.R_drew)); exact Kd.R_mono (Kd.R_far (p := ⟨gb358, 2, none⟩) (Kd.R_far (p := ⟨gb358, 1, none⟩) (Kd.R_far (p := ⟨gb358, 0, none⟩) (Kd.R_types HO320.out BK358.out (by decide)) (fun _ hk => hk.2) (.slice Ao56 t347.length co56)) (fun _ hk => hk.2) (.slice Ao62 t350.length co62)) (fun _ hk => hk.2) (.slice Ao63 t353.length co63)) (fun _ hk => ⟨hk.1.1.1.2, ⟨hk.1.1.2, hk.1.2⟩⟩)⟩, ⟨by (with_reducible repeat (first | apply Kd.R_alloc | apply Kd.R_drewN | apply Kd.R_drew)); exact Kd.R_mono (Kd.R_far (p := ⟨gb358, 2, none⟩) (Kd.R_far (p := ⟨gb358, 1, none⟩) (Kd.R_far (p := ⟨gb358, 0, none⟩) (Kd.R_types HO325.out BK358.out (by decide)) (fun _ hk => hk.2) (.slice Ao56 t347.length co56)) (fun _ hk => hk.2) (.slice Ao62 t350.length co62)) (fun _ hk => hk.2) (.slice Ao63 t353.length co63)) (fun _ hk => ⟨hk.1.1.1.1.2, ⟨hk.1.1.2, ⟨hk.1.2, hk.1.1.1.2⟩⟩⟩)⟩, ⟨by (with_reducible repeat (first | apply Kd.R_alloc | apply Kd.R_drewN | apply Kd.R_drew)); exact Kd.R_mono (Kd.R_far (p := ⟨gb358, 2, none⟩) (Kd.R_far (p := ⟨gb358, 1, none⟩) (Kd.R_far (p := ⟨gb358, 0, none⟩) (Kd.R_types HO328.out BK358.out (by decide)) (fun _ hk => hk.2) (.slice Ao56 t347.length co56)) (fun _ hk => hk.2) (.slice Ao62 t350.length co62)) (fun _ hk => hk.2) (.slice Ao63 t353.length co63)) (fun _ hk => ⟨hk.1.1.1.2, ⟨hk.1.1.2, hk.1.2⟩⟩)⟩, ⟨by (with_reducible repeat (first | apply Kd.R_alloc | apply Kd.R_drewN | apply Kd.R_drew)); exact Kd.R_mono (Kd.R_far (p := ⟨gb358, 2, none⟩) (Kd.R_far (p := ⟨gb358, 1, none⟩) (Kd.R_far (p := ⟨gb358, 0, none⟩) (Kd.R_types HO331.out BK358.out (by decide)) (fun _ hk => hk.2) (.slice Ao56 t347.length co56)) (fun _ hk => hk.2) (.slice Ao62 t350.length co62)) (fun _ hk => hk.2) (.slice Ao63 t353.length co63)) (fun _ hk => ⟨hk.1.1.1.2, ⟨hk.1.1.2, hk.1.2⟩⟩)⟩, ⟨by (with_reducible repeat (first | apply Kd.R_alloc | apply Kd.R_drewN | apply Kd.R_drew)); exact Kd.R_mono (Kd.R_far (p := ⟨gb358, 2, none⟩) (Kd.R_far (p := ⟨gb358, 1, none⟩) (Kd.R_far (p := ⟨gb358, 0, none⟩) (Kd.R_types HO337.out BK358.out (by decide)) (fun _ hk => hk.2) (.slice Ao56 t347.length co56)) (fun _ hk => hk.2) (.slice Ao62 t350.length co62)) (fun _ hk => hk.2) (.slice Ao63 t353.length co63)) (fun _ hk => ⟨hk.1.1.1.1.2, ⟨hk.1.1.1.2, ⟨hk.1.2, hk.1.1.2⟩⟩⟩)⟩, ⟨by (with_reducible repeat (first | apply Kd.R_alloc | apply Kd.R_drewN | apply Kd.R_drew)); exact Kd.R_mono (Kd.R_far (p := ⟨gb358, 2, none⟩) (Kd.R_far (p := ⟨gb358, 1, none⟩) (Kd.R_far (p := ⟨gb358, 0, none⟩) (Kd.R_types HO340.out BK358.out (by decide)) (fun _ hk => hk.2) (.slice Ao56 t347.length co56)) (fun _ hk => hk.2) (.slice Ao62 t350.length co62)) (fun _ hk => hk.2) (.slice Ao63 t353.length co63)) (fun _ hk => ⟨hk.1.1.1.2, ⟨hk.1.1.2, hk.1.2⟩⟩)⟩, ⟨by (with_reducible repeat (first | apply Kd.R_alloc | apply Kd.R_drewN | apply Kd.R_drew)); exact Kd.R_mono (Kd.R_far (p := ⟨gb358, 2, none⟩) (Kd.R_far (p := ⟨gb358, 1, none⟩) (Kd.R_far (p := ⟨gb358, 0, none⟩) (Kd.R_types HO343.out BK358.out (by decide)) (fun _ hk => hk.2) (.slice Ao56 t347.length co56)) (fun _ hk => hk.2) (.slice Ao62 t350.length co62)) (fun _ hk => hk.2) (.slice Ao63 t353.length co63)) (fun _ hk => ⟨hk.1.1.1.2, ⟨hk.1.1.2, hk.1.2⟩⟩)⟩, ⟨by (with_reducible repeat (first | apply Kd.R_alloc | apply Kd.R_drewN | apply Kd.R_drew)); exact Kd.R_mono (Kd.R_far (p := ⟨gb358, 2, none⟩) (Kd.R_far (p := ⟨gb358, 1, none⟩) (Kd.R_far (p := ⟨gb358, 0, none⟩) (Kd.R_types HO349.out BK358.out (by decide)) (fun _ hk => hk.2) (.slice Ao56 t347.length co56)) (fun _ hk => hk.2) (.slice Ao62 t350.length co62)) (fun _ hk => hk.2) (.slice Ao63 t353.length co63)) (fun _ hk => ⟨hk.1.1.1.1.2, ⟨hk.1.1.1.2, ⟨hk.1.1.2, hk.1.2⟩⟩⟩)⟩, ⟨by (with_reducible repeat (first | apply Kd.R_alloc | apply Kd.R_drewN | apply Kd.R_drew)); exact Kd.R_mono (Kd.R_far (p := ⟨gb358, 2, none⟩) (Kd.R_far (p := ⟨gb358, 1, none⟩) (Kd.R_far (p := ⟨gb358, 0, none⟩) (Kd.R_types HO352.out BK358.out (by decide)) (fun _ hk => hk.2) (.slice Ao56 t347.length co56)) (fun _ hk => hk.2) (.slice Ao62 t350.length co62)) (fun _ hk => hk.2) (.slice Ao63 t353.length co63)) (fun _ hk => ⟨hk.1.1.1.2, ⟨hk.1.1.2, hk.1.2⟩⟩)⟩, ⟨by (with_reducible repeat (first | apply Kd.R_alloc | apply Kd.R_drewN | apply Kd.R_drew)); exact Kd.R_mono (Kd.R_far (p := ⟨gb358, 2, none⟩) (Kd.R_far (p := ⟨gb358, 1, none⟩) (Kd.R_far (p := ⟨gb358, 0, none⟩) (Kd.R_types HO355.out BK358.out (by decide)) (fun _ hk => hk.2) (.slice Ao56 t347.length co56)) (fun _ hk => hk.2) (.slice Ao62 t350.length co62)) (fun _ hk => hk.2) (.slice Ao63 t353.length co63)) (fun _ hk => ⟨hk.1.1.1.2, ⟨hk.1.1.2, hk.1.2⟩⟩)⟩, ⟨by (with_reducible repeat (first | refine blk_drewN ?_ _ | refine blk_drew ?_ | refine blk_alloc ?_ _)); refine blk_far ?_ NB309_358.out _; (with_reducible repeat (first | refine blk_drewN ?_ _ | refine blk_drew ?_ | refine blk_alloc ?_ _)); refine blk_far ?_ NB309_358.out _; (with_reducible repeat (first | refine blk_drewN ?_ _ | refine blk_drew ?_ | refine blk_alloc ?_ _)); refine blk_far ?_ NB309_358.out _; (with_reducible repeat (first | refine blk_drewN ?_ _ | refine blk_drew ?_ | refine blk_alloc ?_ _)); exact BK309.out⟩, ⟨by (with_reducible repeat (first | refine blk_drewN ?_ _ | refine blk_drew ?_ | refine blk_alloc ?_ _)); refine blk_far ?_ NB310_358.out _; (with_reducible repeat (first | refine blk_drewN ?_ _ | refine blk_drew ?_ | refine blk_alloc ?_ _)); refine blk_far ?_ NB310_358.out _; (with_reducible repeat (first | refine blk_drewN ?_ _ | refine blk_drew ?_ | refine blk_alloc ?_ _)); refine blk_far ?_ NB310_358.out _; (with_reducible repeat (first | refine blk_drewN ?_ _ | refine blk_drew ?_ | refine blk_alloc ?_ _)); exact BK310.out⟩, ⟨by (with_reducible repeat (first | refine blk_drewN ?_ _ | refine blk_drew ?_ | refine blk_alloc ?_ _)); refine blk_far ?_ NB333_358.out _; (with_reducible repeat (first | refine blk_drewN ?_ _ | refine blk_drew ?_ | refine blk_alloc ?_ _)); refine blk_far ?_ NB333_358.out _; (with_reducible repeat (first | refine blk_drewN ?_ _ | refine blk_drew ?_ | refine blk_alloc ?_ _)); refine blk_far ?_ NB333_358.out _; (with_reducible repeat (first | refine blk_drewN ?_ _ | refine blk_drew ?_ | refine blk_alloc ?_ _)); exact BK333.out⟩, ⟨by (with_reducible repeat (first | refine blk_drewN ?_ _ | refine blk_drew ?_ | refine blk_alloc ?_ _)); refine blk_far ?_ NB346_358.out _; (with_reducible repeat (first | refine blk_drewN ?_ _ | refine blk_drew ?_ | refine blk_alloc ?_ _)); refine blk_far ?_ NB346_358.out _; (with_reducible repeat (first | refine blk_drewN ?_ _ | refine blk_drew ?_ | refine blk_alloc ?_ _)); refine blk_far ?_ NB346_358.out _; (with_reducible repeat (first | refine blk_drewN ?_ _ | refine blk_drew ?_ | refine blk_alloc ?_ _)); exact BK346.out⟩, ⟨by (with_reducible repeat (first | refine blk_drewN ?_ _ | refine blk_drew ?_ | refine blk_alloc ?_ _)); refine blk_put (cs := #[.slice Ao56 t347.length co56, .slice Ao62 t350.length co62, .slice none 0 0]) ?_ 2 _ rfl; (with_reducible repeat (first | refine blk_drewN ?_ _ | refine blk_drew ?_ | refine blk_alloc ?_ _)); refine blk_put (cs := #[.slice Ao56 t347.length co56, .slice none 0 0, .slice none 0 0]) ?_ 1 _ rfl; (with_reducible repeat (first | refine blk_drewN ?_ _ | refine blk_drew ?_ | refine blk_alloc ?_ _)); refine blk_put (cs := #[.slice none 0 0, .slice none 0 0, .slice none 0 0]) ?_ 0 _ rfl; (with_reducible repeat (first | refine blk_drewN ?_ _ | refine blk_drew ?_ | refine blk_alloc ?_ _)); exact BK358.out⟩, ⟨by repeat (first | (with_reducible first | exact HB.out | apply below_alloc | apply pw_below_drewN | apply below_drew1 | refine below_set ?_ GE309.out | refine below_set ?_ GE310.out | refine below_set ?_ GE333.out | refine below_set ?_ GE346.out | refine below_set ?_ GE358.out) | exact HB.out)⟩⟩
      · rw [if_neg c65] at H
        have c65b0 : decide ((t323.length : Int) ≤ t334) = false := decide_eq_false c65
        clear c65
        replace H := Option.bind_eq_some_iff.mp H
        obtain ⟨t359, A710, H⟩ := H
        replace H : (bazaarlaw06_NodeFinds.j0 k t311 t334 t344 t345 t356 t357 (!t359) t312 t315 t318 t321 t322 t323 t326 t329 t335 t338 t341 t347 t350 t353) = some r := H
        have A71 := Aside0.mk A710
        clear A710
        have H' := Aside0.mk H
        clear H
        have hnb72 := NB333_309.out
        have hnc72 := NB309_333.out
        have hnb73 := NB333_310.out
        have hnc73 := NB310_333.out
        have hnb74 := NB333_346.out
        have hnc74 := NB346_333.out
        have hnb75 := NB333_358.out
        have hnc75 := NB358_333.out
        have hcz76_0 : w55.cell? ⟨gb333, 0, none⟩ = some (.slice Ao33 t323.length co33) := (blk_cell BK333.out 0).trans rfl
        have hcz76_1 : w55.cell? ⟨gb333, 1, none⟩ = some (.slice Ao37 t326.length co37) := (blk_cell BK333.out 1).trans rfl
        have hcz76_2 : w55.cell? ⟨gb333, 2, none⟩ = some (.slice Ao38 t329.length co38) := (blk_cell BK333.out 2).trans rfl
        have hfz76_0 := blk_frozen BK333.out 0
        have hfz76_1 := blk_frozen BK333.out 1
        have hfz76_2 := blk_frozen BK333.out 2
        go_wp2_with (first | (go_at_call 14; (with_reducible refine (node_Right.calls k _ _ t323 _ _ t326 _ _ t329 t359 _ ?side1 ?side2 ?side3 ?side4 ?side5 ?side6 A71.out).mono ?_); (case side1 => refine (Kd.R_reads' (e := 39) (base := w.heap.size) (ok := fun k_ => ((((True ∧ some k_ ≠ (.slice Ao19 t312.length co19 : Value).ownBlock) ∧ k_ ≠ gb310) ∧ some k_ ≠ (.slice Ao45 t335.length co45 : Value).ownBlock) ∧ some k_ ≠ (.slice Ao56 t347.length co56 : Value).ownBlock)) (n := t323.length) (c := co33) ?_).2.2; exact (by (with_reducible repeat (first | apply Kd.R_alloc | apply Kd.R_drewN | apply Kd.R_drew)); exact (Kd.R_mono (Kd.R_far (p := ⟨gb358, 2, none⟩) (Kd.R_far (p := ⟨gb358, 1, none⟩) (Kd.R_far (p := ⟨gb358, 0, none⟩) (Kd.R_types HO325.out BK358.out (by decide)) (fun _ hk => hk.2) (.slice Ao56 t347.length co56)) (fun _ hk => hk.2) (.slice Ao62 t350.length co62)) (fun _ hk => hk.2) (.slice Ao63 t353.length co63)) (fun _ h_ => h_.1)))); (case side2 => exact (Kd.R_reads' HO325.out).2.1); (case side3 => refine (Kd.R_reads' (e := 9) (base := w.heap.size) (ok := fun k_ => (((True ∧ some k_ ≠ (.slice Ao21 t315.length co21 : Value).ownBlock) ∧ some k_ ≠ (.slice Ao50 t338.length co50 : Value).ownBlock) ∧ some k_ ≠ (.slice Ao62 t350.length co62 : Value).ownBlock)) (n := t326.length) (c := co37) ?_).2.2; exact (by (with_reducible repeat (first | apply Kd.R_alloc | apply Kd.R_drewN | apply Kd.R_drew)); exact (Kd.R_mono (Kd.R_far (p := ⟨gb358, 2, none⟩) (Kd.R_far (p := ⟨gb358, 1, none⟩) (Kd.R_far (p := ⟨gb358, 0, none⟩) (Kd.R_types HO328.out BK358.out (by decide)) (fun _ hk => hk.2) (.slice Ao56 t347.length co56)) (fun _ hk => hk.2) (.slice Ao62 t350.length co62)) (fun _ hk => hk.2) (.slice Ao63 t353.length co63)) (fun _ h_ => h_.1)))); (case side4 => exact (Kd.R_reads' HO328.out).2.1); (case side5 => refine (Kd.R_reads' (e := 65) (base := w.heap.size) (ok := fun k_ => (((True ∧ some k_ ≠ (.slice Ao22 t318.length co22 : Value).ownBlock) ∧ some k_ ≠ (.slice Ao51 t341.length co51 : Value).ownBlock) ∧ some k_ ≠ (.slice Ao63 t353.length co63 : Value).ownBlock)) (n := t329.length) (c := co38) ?_).2.2; exact (by (with_reducible repeat (first | apply Kd.R_alloc | apply Kd.R_drewN | apply Kd.R_drew)); exact (Kd.R_mono (Kd.R_far (p := ⟨gb358, 2, none⟩) (Kd.R_far (p := ⟨gb358, 1, none⟩) (Kd.R_far (p := ⟨gb358, 0, none⟩) (Kd.R_types HO331.out BK358.out (by decide)) (fun _ hk => hk.2) (.slice Ao56 t347.length co56)) (fun _ hk => hk.2) (.slice Ao62 t350.length co62)) (fun _ hk => hk.2) (.slice Ao63 t353.length co63)) (fun _ h_ => h_.1)))); (case side6 => exact (Kd.R_reads' HO331.out).2.1); rintro e w77 ⟨rfl, hb⟩; have n0_ := Aside0.mk (Kd.R_below (by (with_reducible repeat (first | apply Kd.R_alloc | apply Kd.R_drewN | apply Kd.R_drew)); exact (Kd.R_mono (Kd.R_far (p := ⟨gb358, 2, none⟩) (Kd.R_far (p := ⟨gb358, 1, none⟩) (Kd.R_far (p := ⟨gb358, 0, none⟩) (Kd.R_types HO314.out BK358.out (by decide)) (fun _ hk => hk.2) (.slice Ao56 t347.length co56)) (fun _ hk => hk.2) (.slice Ao62 t350.length co62)) (fun _ hk => hk.2) (.slice Ao63 t353.length co63)) (fun _ h_ => h_.1))) hb); have n1_ := Aside0.mk (Kd.R_below (by (with_reducible repeat (first | apply Kd.R_alloc | apply Kd.R_drewN | apply Kd.R_drew)); exact (Kd.R_mono (Kd.R_far (p := ⟨gb358, 2, none⟩) (Kd.R_far (p := ⟨gb358, 1, none⟩) (Kd.R_far (p := ⟨gb358, 0, none⟩) (Kd.R_types HO317.out BK358.out (by decide)) (fun _ hk => hk.2) (.slice Ao56 t347.length co56)) (fun _ hk => hk.2) (.slice Ao62 t350.length co62)) (fun _ hk => hk.2) (.slice Ao63 t353.length co63)) (fun _ h_ => h_.1))) hb); have n2_ := Aside0.mk (Kd.R_below (by (with_reducible repeat (first | apply Kd.R_alloc | apply Kd.R_drewN | apply Kd.R_drew)); exact (Kd.R_mono (Kd.R_far (p := ⟨gb358, 2, none⟩) (Kd.R_far (p := ⟨gb358, 1, none⟩) (Kd.R_far (p := ⟨gb358, 0, none⟩) (Kd.R_types HO320.out BK358.out (by decide)) (fun _ hk => hk.2) (.slice Ao56 t347.length co56)) (fun _ hk => hk.2) (.slice Ao62 t350.length co62)) (fun _ hk => hk.2) (.slice Ao63 t353.length co63)) (fun _ h_ => h_.1))) hb); have n3_ := Aside0.mk (Kd.R_below (by (with_reducible repeat (first | apply Kd.R_alloc | apply Kd.R_drewN | apply Kd.R_drew)); exact (Kd.R_mono (Kd.R_far (p := ⟨gb358, 2, none⟩) (Kd.R_far (p := ⟨gb358, 1, none⟩) (Kd.R_far (p := ⟨gb358, 0, none⟩) (Kd.R_types HO325.out BK358.out (by decide)) (fun _ hk => hk.2) (.slice Ao56 t347.length co56)) (fun _ hk => hk.2) (.slice Ao62 t350.length co62)) (fun _ hk => hk.2) (.slice Ao63 t353.length co63)) (fun _ h_ => h_.1))) hb); have n4_ := Aside0.mk (Kd.R_below (by (with_reducible repeat (first | apply Kd.R_alloc | apply Kd.R_drewN | apply Kd.R_drew)); exact (Kd.R_mono (Kd.R_far (p := ⟨gb358, 2, none⟩) (Kd.R_far (p := ⟨gb358, 1, none⟩) (Kd.R_far (p := ⟨gb358, 0, none⟩) (Kd.R_types HO328.out BK358.out (by decide)) (fun _ hk => hk.2) (.slice Ao56 t347.length co56)) (fun _ hk => hk.2) (.slice Ao62 t350.length co62)) (fun _ hk => hk.2) (.slice Ao63 t353.length co63)) (fun _ h_ => h_.1))) hb); have n5_ := Aside0.mk (Kd.R_below (by (with_reducible repeat (first | apply Kd.R_alloc | apply Kd.R_drewN | apply Kd.R_drew)); exact (Kd.R_mono (Kd.R_far (p := ⟨gb358, 2, none⟩) (Kd.R_far (p := ⟨gb358, 1, none⟩) (Kd.R_far (p := ⟨gb358, 0, none⟩) (Kd.R_types HO331.out BK358.out (by decide)) (fun _ hk => hk.2) (.slice Ao56 t347.length co56)) (fun _ hk => hk.2) (.slice Ao62 t350.length co62)) (fun _ hk => hk.2) (.slice Ao63 t353.length co63)) (fun _ h_ => h_.1))) hb); have n6_ := Aside0.mk (Kd.R_below (by (with_reducible repeat (first | apply Kd.R_alloc | apply Kd.R_drewN | apply Kd.R_drew)); exact (Kd.R_mono (Kd.R_far (p := ⟨gb358, 2, none⟩) (Kd.R_far (p := ⟨gb358, 1, none⟩) (Kd.R_far (p := ⟨gb358, 0, none⟩) (Kd.R_types HO337.out BK358.out (by decide)) (fun _ hk => hk.2) (.slice Ao56 t347.length co56)) (fun _ hk => hk.2) (.slice Ao62 t350.length co62)) (fun _ hk => hk.2) (.slice Ao63 t353.length co63)) (fun _ h_ => h_.1))) hb); have n7_ := Aside0.mk (Kd.R_below (by (with_reducible repeat (first | apply Kd.R_alloc | apply Kd.R_drewN | apply Kd.R_drew)); exact (Kd.R_mono (Kd.R_far (p := ⟨gb358, 2, none⟩) (Kd.R_far (p := ⟨gb358, 1, none⟩) (Kd.R_far (p := ⟨gb358, 0, none⟩) (Kd.R_types HO340.out BK358.out (by decide)) (fun _ hk => hk.2) (.slice Ao56 t347.length co56)) (fun _ hk => hk.2) (.slice Ao62 t350.length co62)) (fun _ hk => hk.2) (.slice Ao63 t353.length co63)) (fun _ h_ => h_.1))) hb); have n8_ := Aside0.mk (Kd.R_below (by (with_reducible repeat (first | apply Kd.R_alloc | apply Kd.R_drewN | apply Kd.R_drew)); exact (Kd.R_mono (Kd.R_far (p := ⟨gb358, 2, none⟩) (Kd.R_far (p := ⟨gb358, 1, none⟩) (Kd.R_far (p := ⟨gb358, 0, none⟩) (Kd.R_types HO343.out BK358.out (by decide)) (fun _ hk => hk.2) (.slice Ao56 t347.length co56)) (fun _ hk => hk.2) (.slice Ao62 t350.length co62)) (fun _ hk => hk.2) (.slice Ao63 t353.length co63)) (fun _ h_ => h_.1))) hb); have n9_ := Aside0.mk (Kd.R_below (by (with_reducible repeat (first | apply Kd.R_alloc | apply Kd.R_drewN | apply Kd.R_drew)); exact (Kd.R_mono (Kd.R_far (p := ⟨gb358, 2, none⟩) (Kd.R_far (p := ⟨gb358, 1, none⟩) (Kd.R_far (p := ⟨gb358, 0, none⟩) (Kd.R_types HO349.out BK358.out (by decide)) (fun _ hk => hk.2) (.slice Ao56 t347.length co56)) (fun _ hk => hk.2) (.slice Ao62 t350.length co62)) (fun _ hk => hk.2) (.slice Ao63 t353.length co63)) (fun _ h_ => h_.1))) hb); have n10_ := Aside0.mk (Kd.R_below (by (with_reducible repeat (first | apply Kd.R_alloc | apply Kd.R_drewN | apply Kd.R_drew)); exact (Kd.R_mono (Kd.R_far (p := ⟨gb358, 2, none⟩) (Kd.R_far (p := ⟨gb358, 1, none⟩) (Kd.R_far (p := ⟨gb358, 0, none⟩) (Kd.R_types HO352.out BK358.out (by decide)) (fun _ hk => hk.2) (.slice Ao56 t347.length co56)) (fun _ hk => hk.2) (.slice Ao62 t350.length co62)) (fun _ hk => hk.2) (.slice Ao63 t353.length co63)) (fun _ h_ => h_.1))) hb); have n11_ := Aside0.mk (Kd.R_below (by (with_reducible repeat (first | apply Kd.R_alloc | apply Kd.R_drewN | apply Kd.R_drew)); exact (Kd.R_mono (Kd.R_far (p := ⟨gb358, 2, none⟩) (Kd.R_far (p := ⟨gb358, 1, none⟩) (Kd.R_far (p := ⟨gb358, 0, none⟩) (Kd.R_types HO355.out BK358.out (by decide)) (fun _ hk => hk.2) (.slice Ao56 t347.length co56)) (fun _ hk => hk.2) (.slice Ao62 t350.length co62)) (fun _ hk => hk.2) (.slice Ao63 t353.length co63)) (fun _ h_ => h_.1))) hb); have n12_ := Aside0.mk (blk_below (g := gb309) (o := .cells #[.slice Ao19 t312.length co19, .slice Ao21 t315.length co21, .slice Ao22 t318.length co22] 26 (0, 0)) (by (with_reducible repeat (first | refine blk_drewN ?_ _ | refine blk_drew ?_ | refine blk_alloc ?_ _)); refine blk_far ?_ NB309_358.out _; (with_reducible repeat (first | refine blk_drewN ?_ _ | refine blk_drew ?_ | refine blk_alloc ?_ _)); refine blk_far ?_ NB309_358.out _; (with_reducible repeat (first | refine blk_drewN ?_ _ | refine blk_drew ?_ | refine blk_alloc ?_ _)); refine blk_far ?_ NB309_358.out _; (with_reducible repeat (first | refine blk_drewN ?_ _ | refine blk_drew ?_ | refine blk_alloc ?_ _)); exact BK309.out) hb); have n13_ := Aside0.mk (blk_below (g := gb310) (o := .cells #[.string t321, .string t322] 39 (0, 0)) (by (with_reducible repeat (first | refine blk_drewN ?_ _ | refine blk_drew ?_ | refine blk_alloc ?_ _)); refine blk_far ?_ NB310_358.out _; (with_reducible repeat (first | refine blk_drewN ?_ _ | refine blk_drew ?_ | refine blk_alloc ?_ _)); refine blk_far ?_ NB310_358.out _; (with_reducible repeat (first | refine blk_drewN ?_ _ | refine blk_drew ?_ | refine blk_alloc ?_ _)); refine blk_far ?_ NB310_358.out _; (with_reducible repeat (first | refine blk_drewN ?_ _ | refine blk_drew ?_ | refine blk_alloc ?_ _)); exact BK310.out) hb); have n14_ := Aside0.mk (blk_below (g := gb333) (o := .cells #[.slice Ao33 t323.length co33, .slice Ao37 t326.length co37, .slice Ao38 t329.length co38] 26 (0, 0)) (by (with_reducible repeat (first | refine blk_drewN ?_ _ | refine blk_drew ?_ | refine blk_alloc ?_ _)); refine blk_far ?_ NB333_358.out _; (with_reducible repeat (first | refine blk_drewN ?_ _ | refine blk_drew ?_ | refine blk_alloc ?_ _)); refine blk_far ?_ NB333_358.out _; (with_reducible repeat (first | refine blk_drewN ?_ _ | refine blk_drew ?_ | refine blk_alloc ?_ _)); refine blk_far ?_ NB333_358.out _; (with_reducible repeat (first | refine blk_drewN ?_ _ | refine blk_drew ?_ | refine blk_alloc ?_ _)); exact BK333.out) hb); have n15_ := Aside0.mk (blk_below (g := gb346) (o := .cells #[.slice Ao45 t335.length co45, .slice Ao50 t338.length co50, .slice Ao51 t341.length co51] 26 (0, 0)) (by (with_reducible repeat (first | refine blk_drewN ?_ _ | refine blk_drew ?_ | refine blk_alloc ?_ _)); refine blk_far ?_ NB346_358.out _; (with_reducible repeat (first | refine blk_drewN ?_ _ | refine blk_drew ?_ | refine blk_alloc ?_ _)); refine blk_far ?_ NB346_358.out _; (with_reducible repeat (first | refine blk_drewN ?_ _ | refine blk_drew ?_ | refine blk_alloc ?_ _)); refine blk_far ?_ NB346_358.out _; (with_reducible repeat (first | refine blk_drewN ?_ _ | refine blk_drew ?_ | refine blk_alloc ?_ _)); exact BK346.out) hb); have n16_ := Aside0.mk (blk_below (g := gb358) (o := .cells #[.slice Ao56 t347.length co56, .slice Ao62 t350.length co62, .slice Ao63 t353.length co63] 26 (0, 0)) (by (with_reducible repeat (first | refine blk_drewN ?_ _ | refine blk_drew ?_ | refine blk_alloc ?_ _)); refine blk_put (cs := #[.slice Ao56 t347.length co56, .slice Ao62 t350.length co62, .slice none 0 0]) ?_ 2 _ rfl; (with_reducible repeat (first | refine blk_drewN ?_ _ | refine blk_drew ?_ | refine blk_alloc ?_ _)); refine blk_put (cs := #[.slice Ao56 t347.length co56, .slice none 0 0, .slice none 0 0]) ?_ 1 _ rfl; (with_reducible repeat (first | refine blk_drewN ?_ _ | refine blk_drew ?_ | refine blk_alloc ?_ _)); refine blk_put (cs := #[.slice none 0 0, .slice none 0 0, .slice none 0 0]) ?_ 0 _ rfl; (with_reducible repeat (first | refine blk_drewN ?_ _ | refine blk_drew ?_ | refine blk_alloc ?_ _)); exact BK358.out) hb); have n17_ := Aside0.mk (below_step (by repeat (first | (with_reducible first | exact HB.out | apply below_alloc | apply pw_below_drewN | apply below_drew1 | refine below_set ?_ GE309.out | refine below_set ?_ GE310.out | refine below_set ?_ GE333.out | refine below_set ?_ GE346.out | refine below_set ?_ GE358.out) | exact HB.out)) hb); clear HO314; clear HO317; clear HO320; clear HO325; clear HO328; clear HO331; clear HO337; clear HO340; clear HO343; clear HO349; clear HO352; clear HO355; clear BK309; clear BK310; clear BK333; clear BK346; clear BK358; clear HB; have HO314 := n0_; have HO317 := n1_; have HO320 := n2_; have HO325 := n3_; have HO328 := n4_; have HO331 := n5_; have HO337 := n6_; have HO340 := n7_; have HO343 := n8_; have HO349 := n9_; have HO352 := n10_; have HO355 := n11_; have BK309 := n12_; have BK310 := n13_; have BK333 := n14_; have BK346 := n15_; have BK358 := n16_; have HB := n17_; clear n0_ n1_ n2_ n3_ n4_ n5_ n6_ n7_ n8_ n9_ n10_ n11_ n12_ n13_ n14_ n15_ n16_ n17_; (try clear hb); (try clear hb2); (try clear hk); (try clear hi)))
        go_meet
        case rel => exact ⟨_, (!t359), (by first | rfl | (simp; done) | (simp [*]; done)), H', ⟨by first | omega | exact Nat.le_refl _⟩, ⟨by (with_reducible repeat (first | apply Kd.R_alloc | apply Kd.R_drewN | apply Kd.R_drew)); exact Kd.R_mono HO314.out (fun _ hk => ⟨hk.1.1.2, ⟨hk.1.2, ⟨hk.2, hk.1.1.1⟩⟩⟩)⟩, ⟨by (with_reducible repeat (first | apply Kd.R_alloc | apply Kd.R_drewN | apply Kd.R_drew)); exact Kd.R_mono HO317.out (fun _ hk => ⟨hk.1.1.2, ⟨hk.1.2, hk.2⟩⟩)⟩, ⟨by (with_reducible repeat (first | apply Kd.R_alloc | apply Kd.R_drewN | apply Kd.R_drew)); exact Kd.R_mono HO320.out (fun _ hk => ⟨hk.1.1.2, ⟨hk.1.2, hk.2⟩⟩)⟩, ⟨by (with_reducible repeat (first | apply Kd.R_alloc | apply Kd.R_drewN | apply Kd.R_drew)); exact Kd.R_mono HO325.out (fun _ hk => ⟨hk.1.1.1.2, ⟨hk.1.2, ⟨hk.2, hk.1.1.2⟩⟩⟩)⟩, ⟨by (with_reducible repeat (first | apply Kd.R_alloc | apply Kd.R_drewN | apply Kd.R_drew)); exact Kd.R_mono HO328.out (fun _ hk => ⟨hk.1.1.2, ⟨hk.1.2, hk.2⟩⟩)⟩, ⟨by (with_reducible repeat (first | apply Kd.R_alloc | apply Kd.R_drewN | apply Kd.R_drew)); exact Kd.R_mono HO331.out (fun _ hk => ⟨hk.1.1.2, ⟨hk.1.2, hk.2⟩⟩)⟩, ⟨by (with_reducible repeat (first | apply Kd.R_alloc | apply Kd.R_drewN | apply Kd.R_drew)); exact Kd.R_mono HO337.out (fun _ hk => ⟨hk.1.1.1.2, ⟨hk.1.1.2, ⟨hk.2, hk.1.2⟩⟩⟩)⟩, ⟨by (with_reducible repeat (first | apply Kd.R_alloc | apply Kd.R_drewN | apply Kd.R_drew)); exact Kd.R_mono HO340.out (fun _ hk => ⟨hk.1.1.2, ⟨hk.1.2, hk.2⟩⟩)⟩, ⟨by (with_reducible repeat (first | apply Kd.R_alloc | apply Kd.R_drewN | apply Kd.R_drew)); exact Kd.R_mono HO343.out (fun _ hk => ⟨hk.1.1.2, ⟨hk.1.2, hk.2⟩⟩)⟩, ⟨by (with_reducible repeat (first | apply Kd.R_alloc | apply Kd.R_drewN | apply Kd.R_drew)); exact Kd.R_mono HO349.out (fun _ hk => ⟨hk.1.1.1.2, ⟨hk.1.1.2, ⟨hk.1.2, hk.2⟩⟩⟩)⟩, ⟨by (with_reducible repeat (first | apply Kd.R_alloc | apply Kd.R_drewN | apply Kd.R_drew)); exact Kd.R_mono HO352.out (fun _ hk => ⟨hk.1.1.2, ⟨hk.1.2, hk.2⟩⟩)⟩, ⟨by (with_reducible repeat (first | apply Kd.R_alloc | apply Kd.R_drewN | apply Kd.R_drew)); exact Kd.R_mono HO355.out (fun _ hk => ⟨hk.1.1.2, ⟨hk.1.2, hk.2⟩⟩)⟩, ⟨by (with_reducible repeat (first | refine blk_drewN ?_ _ | refine blk_drew ?_ | refine blk_alloc ?_ _)); exact BK309.out⟩, ⟨by (with_reducible repeat (first | refine blk_drewN ?_ _ | refine blk_drew ?_ | refine blk_alloc ?_ _)); exact BK310.out⟩, ⟨by (with_reducible repeat (first | refine blk_drewN ?_ _ | refine blk_drew ?_ | refine blk_alloc ?_ _)); exact BK333.out⟩, ⟨by (with_reducible repeat (first | refine blk_drewN ?_ _ | refine blk_drew ?_ | refine blk_alloc ?_ _)); exact BK346.out⟩, ⟨by (with_reducible repeat (first | refine blk_drewN ?_ _ | refine blk_drew ?_ | refine blk_alloc ?_ _)); exact BK358.out⟩, ⟨by repeat (first | (with_reducible first | exact HB.out | apply below_alloc | apply pw_below_drewN | apply below_drew1 | refine below_set ?_ GE309.out | refine below_set ?_ GE310.out | refine below_set ?_ GE333.out | refine below_set ?_ GE346.out | refine below_set ?_ GE358.out) | exact HB.out)⟩⟩
  case rest =>
    clear HC12
    try clear c1
    try clear c2
    try clear p2
    try clear c3
    try clear c4
    try clear c5
    try clear c6
    try clear c7
    try clear c8
    try clear c8b0
    try clear c8b1
    try clear c10
    try clear c11
    try clear c16
    try clear c18
    try clear c19
    try clear c22
    try clear c24
    try clear c34
    try clear c35
    try clear c46
    try clear c47
    try clear c48
    try clear c57
    try clear c58
    try clear c59
    try clear c60
    try clear c64
    try clear c64b0
    try clear c65
    try clear c65b0
    try clear c66
    try clear c67
    try clear c68
    try clear c69
    try clear c72
    try clear c73
    try clear c74
    try clear c75
    try clear hcz17_0
    try clear hcz17_1
    try clear hcz17_2
    try clear hcz20_0
    try clear hcz20_1
    try clear hcz20_2
    try clear hcz29_0
    try clear hcz29_1
    try clear hcz29_2
    try clear hcz30_0
    try clear hcz30_1
    try clear hcz36_0
    try clear hcz36_1
    try clear hcz36_2
    try clear hcz39_0
    try clear hcz39_1
    try clear hcz41_0
    try clear hcz41_1
    try clear hcz41_2
    try clear hcz42_0
    try clear hcz42_1
    try clear hcz49_0
    try clear hcz49_1
    try clear hcz49_2
    try clear hcz52_0
    try clear hcz52_1
    try clear hcz52_2
    try clear hcz53_0
    try clear hcz53_1
    try clear hcz61_0
    try clear hcz61_1
    try clear hcz61_2
    try clear hcz70_0
    try clear hcz70_1
    try clear hcz70_2
    try clear hcz76_0
    try clear hcz76_1
    try clear hcz76_2
    try clear hfz17_0
    try clear hfz17_1
    try clear hfz17_2
    try clear hfz20_0
    try clear hfz20_1
    try clear hfz20_2
    try clear hfz29_0
    try clear hfz29_1
    try clear hfz29_2
    try clear hfz30_0
    try clear hfz30_1
    try clear hfz36_0
    try clear hfz36_1
    try clear hfz36_2
    try clear hfz39_0
    try clear hfz39_1
    try clear hfz41_0
    try clear hfz41_1
    try clear hfz41_2
    try clear hfz42_0
    try clear hfz42_1
    try clear hfz49_0
    try clear hfz49_1
    try clear hfz49_2
    try clear hfz52_0
    try clear hfz52_1
    try clear hfz52_2
    try clear hfz53_0
    try clear hfz53_1
    try clear hfz61_0
    try clear hfz61_1
    try clear hfz61_2
    try clear hfz70_0
    try clear hfz70_1
    try clear hfz70_2
    try clear hfz76_0
    try clear hfz76_1
    try clear hfz76_2
    obtain ⟨kq, x74_11, rfl, HA, HJ11, HO_310000, HO_310001, HO_310002, HO_334000, HO_334001, HO_334002, HO_347000, HO_347001, HO_347002, HO_359000, HO_359001, HO_359002, BK309, BK310, BK333, BK346, BK358, HB⟩ := hcut
    cases kq with
    | zero => exact absurd HA.out (by simp [bazaarlaw06_NodeFinds.j0])
    | succ kj11 =>
      have H := HA.out
      clear HA
      simp only [bazaarlaw06_NodeFinds.j0] at H
      by_cases c78 : x74_11 = true
      · subst c78
        have H1 : (some false) = some r := by rw [if_pos rfl] at H; exact H
        clear H
        have H := H1
        clear H1
        obtain rfl := Option.some.inj H
        cases hr_
      · replace c78 := Bool.eq_false_iff.mpr c78
        subst c78
        have H1 : (if t356 = true then (if t311 = true then (if 0 ≤ t334 then (if t334 < (t323.length : Int) then (if ((((rd_T39 t323 t334).f0).toList) == t321.toList && ((((rd_T39 t323 t334).f1).toList) == t322.toList)) = true then (if t344 = true then (if t345 = 0 then (if t357 = 0 then ((bazaarref06_Same.f kj11 t335 t338 t341 t347 t350 t353).bind fun t361 => (if t361 = true then (some ((t323.length : Int) == (wrap64 ((t312.length : Int) + 0)))) else (some false))) else (some false)) else (some false)) else (some false)) else (some false)) else (none)) else (none)) else (some false)) else (if t311 = true then (if 0 ≤ t334 then (if t334 < (t323.length : Int) then (if ((((rd_T39 t323 t334).f0).toList) == t321.toList && ((((rd_T39 t323 t334).f1).toList) == t322.toList)) = true then (if t344 = true then (if t345 = 0 then (if t357 = 0 then ((bazaarref06_Same.f kj11 t335 t338 t341 t347 t350 t353).bind fun t363 => (if t363 = true then (some ((t323.length : Int) == (wrap64 ((t312.length : Int) + 1)))) else (some false))) else (some false)) else (some false)) else (some false)) else (some false)) else (none)) else (none)) else (some false))) = some r := by rw [if_neg (show ¬ (false = true) by decide)] at H; exact H
        clear H
        have H := H1
        clear H1
        by_cases c79 : t356 = true
        · subst c79
          have H1 : (if t311 = true then (if 0 ≤ t334 then (if t334 < (t323.length : Int) then (if ((((rd_T39 t323 t334).f0).toList) == t321.toList && ((((rd_T39 t323 t334).f1).toList) == t322.toList)) = true then (if t344 = true then (if t345 = 0 then (if t357 = 0 then ((bazaarref06_Same.f kj11 t335 t338 t341 t347 t350 t353).bind fun t361 => (if t361 = true then (some ((t323.length : Int) == (wrap64 ((t312.length : Int) + 0)))) else (some false))) else (some false)) else (some false)) else (some false)) else (some false)) else (none)) else (none)) else (some false)) = some r := by rw [if_pos rfl] at H; exact H
          clear H
          have H := H1
          clear H1
          by_cases c80 : t311 = true
          · subst c80
            have H1 : (if 0 ≤ t334 then (if t334 < (t323.length : Int) then (if ((((rd_T39 t323 t334).f0).toList) == t321.toList && ((((rd_T39 t323 t334).f1).toList) == t322.toList)) = true then (if t344 = true then (if t345 = 0 then (if t357 = 0 then ((bazaarref06_Same.f kj11 t335 t338 t341 t347 t350 t353).bind fun t361 => (if t361 = true then (some ((t323.length : Int) == (wrap64 ((t312.length : Int) + 0)))) else (some false))) else (some false)) else (some false)) else (some false)) else (some false)) else (none)) else (none)) = some r := by rw [if_pos rfl] at H; exact H
            clear H
            have H := H1
            clear H1
            by_cases c81 : 0 ≤ t334
            · rw [if_pos c81] at H
              have c81b0 : decide (0 ≤ t334) = true := decide_eq_true c81
              clear c81
              by_cases c82 : t334 < (t323.length : Int)
              · rw [if_pos c82] at H
                have c82b0 : decide (t334 < (t323.length : Int)) = true := decide_eq_true c82
                clear c82
                by_cases c83 : ((((rd_T39 t323 t334).f0).toList) == t321.toList && ((((rd_T39 t323 t334).f1).toList) == t322.toList)) = true
                · rw [if_pos c83] at H
                  have c83b0 : ((((rd_T39 t323 t334).f0).toList) == t321.toList && ((((rd_T39 t323 t334).f1).toList) == t322.toList)) = true := c83
                  (try (have c83b1 : decide ((((rd_T39 t323 t334).f0).toList) = t321.toList && ((((rd_T39 t323 t334).f1).toList) == t322.toList)) = true := by simpa using c83))
                  (try (have c83b2 : ((((rd_T39 t323 t334).f0).toList) == t321.toList && ((((rd_T39 t323 t334).f1).toList) == t322.toList)) = true := by simpa using c83))
                  clear c83
                  by_cases c84 : t344 = true
                  · subst c84
                    have H1 : (if t345 = 0 then (if t357 = 0 then ((bazaarref06_Same.f kj11 t335 t338 t341 t347 t350 t353).bind fun t361 => (if t361 = true then (some ((t323.length : Int) == (wrap64 ((t312.length : Int) + 0)))) else (some false))) else (some false)) else (some false)) = some r := by rw [if_pos rfl] at H; exact H
                    clear H
                    have H := H1
                    clear H1
                    by_cases c85 : t345 = 0
                    · rw [if_pos c85] at H
                      have c85b0 : (t345 == 0) = true := beq_iff_eq.mpr c85
                      have c85b1 : (t345 != 0) = false := bne_eq_false_iff_eq.mpr c85
                      clear c85
                      by_cases c86 : t357 = 0
                      · rw [if_pos c86] at H
                        have c86b0 : (t357 == 0) = true := beq_iff_eq.mpr c86
                        have c86b1 : (t357 != 0) = false := bne_eq_false_iff_eq.mpr c86
                        clear c86
                        replace H := Option.bind_eq_some_iff.mp H
                        obtain ⟨t361, A870, H⟩ := H
                        replace H : (if t361 = true then (some ((t323.length : Int) == (wrap64 ((t312.length : Int) + 0)))) else (some false)) = some r := H
                        have A87 := Aside0.mk A870
                        clear A870
                        by_cases c88 : t361 = true
                        · subst c88
                          have H1 : (some ((t323.length : Int) == (wrap64 ((t312.length : Int) + 0)))) = some r := by rw [if_pos rfl] at H; exact H
                          clear H
                          have H := H1
                          clear H1
                          obtain rfl := Option.some.inj H
                          try go_wp2
                          have n0_ := Aside0.mk (Kd.R_drew HO_310000.out)
                          have n1_ := Aside0.mk (Kd.R_drew HO_310001.out)
                          have n2_ := Aside0.mk (Kd.R_drew HO_310002.out)
                          have n3_ := Aside0.mk (Kd.R_drew HO_334000.out)
                          have n4_ := Aside0.mk (Kd.R_drew HO_334001.out)
                          have n5_ := Aside0.mk (Kd.R_drew HO_334002.out)
                          have n6_ := Aside0.mk (Kd.R_drew HO_347000.out)
                          have n7_ := Aside0.mk (Kd.R_drew HO_347001.out)
                          have n8_ := Aside0.mk (Kd.R_drew HO_347002.out)
                          have n9_ := Aside0.mk (Kd.R_drew HO_359000.out)
                          have n10_ := Aside0.mk (Kd.R_drew HO_359001.out)
                          have n11_ := Aside0.mk (Kd.R_drew HO_359002.out)
                          have n12_ := Aside0.mk (blk_drew BK309.out)
                          have n13_ := Aside0.mk (blk_drew BK310.out)
                          have n14_ := Aside0.mk (blk_drew BK333.out)
                          have n15_ := Aside0.mk (blk_drew BK346.out)
                          have n16_ := Aside0.mk (blk_drew BK358.out)
                          have n17_ := Aside0.mk (below_drew1 HB.out)
                          clear HO_310000
                          clear HO_310001
                          clear HO_310002
                          clear HO_334000
                          clear HO_334001
                          clear HO_334002
                          clear HO_347000
                          clear HO_347001
                          clear HO_347002
                          clear HO_359000
                          clear HO_359001
                          clear HO_359002
                          clear BK309
                          clear BK310
                          clear BK333
                          clear BK346
                          clear BK358
                          clear HB
                          have HO_310000 := n0_
                          have HO_310001 := n1_
                          have HO_310002 := n2_
                          have HO_334000 := n3_
                          have HO_334001 := n4_
                          have HO_334002 := n5_
                          have HO_347000 := n6_
                          have HO_347001 := n7_
                          have HO_347002 := n8_
                          have HO_359000 := n9_
                          have HO_359001 := n10_
                          have HO_359002 := n11_
                          have BK309 := n12_
                          have BK310 := n13_
                          have BK333 := n14_
                          have BK346 := n15_
                          have BK358 := n16_
                          have HB := n17_
                          clear n0_ n1_ n2_ n3_ n4_ n5_ n6_ n7_ n8_ n9_ n10_ n11_ n12_ n13_ n14_ n15_ n16_ n17_
                          have p360 : 0 ≤ (t334 : Int) := of_decide_eq_true (by first | (with_reducible assumption) | assumption)
                          have q360 : t334 < (t323.length : Int) := of_decide_eq_true (by first | (with_reducible assumption) | assumption)
                          obtain ⟨ad360, e360, hx360_0, hx360_1⟩ := at_T39 (Kd.R_reads' HO_334000.out).2.2 t334 p360 q360
                          cases e360
                          replace p360 := eq_true p360
                          replace q360 := eq_true q360
                          refine start_ (n := 38) (S := fun w' => w'.cell? ⟨gb333, 0, none⟩ = some (.slice (some ad360) t323.length co33) ∧ w'.cell? ⟨gb333, 1, none⟩ = some (.slice Ao37 t326.length co37) ∧ w'.cell? ⟨gb333, 2, none⟩ = some (.slice Ao38 t329.length co38) ∧ w'.cell? ⟨gb310, 0, none⟩ = some (.string t321) ∧ w'.cell? ⟨gb310, 1, none⟩ = some (.string t322) ∧ w'.cell? ⟨gb346, 0, none⟩ = some (.slice Ao45 t335.length co45) ∧ w'.cell? ⟨gb346, 1, none⟩ = some (.slice Ao50 t338.length co50) ∧ w'.cell? ⟨gb346, 2, none⟩ = some (.slice Ao51 t341.length co51) ∧ w'.cell? ⟨gb358, 0, none⟩ = some (.slice Ao56 t347.length co56) ∧ w'.cell? ⟨gb358, 1, none⟩ = some (.slice Ao62 t350.length co62) ∧ w'.cell? ⟨gb358, 2, none⟩ = some (.slice Ao63 t353.length co63) ∧ w'.cell? ⟨gb309, 0, none⟩ = some (.slice Ao19 t312.length co19) ∧ w'.cell? ⟨gb309, 1, none⟩ = some (.slice Ao21 t315.length co21) ∧ w'.cell? ⟨gb309, 2, none⟩ = some (.slice Ao22 t318.length co22) ∧ w'.cell? (ad360.add ((t334).toNat * 2)) = some (.string ((rd_T39 t323 t334).f0)) ∧ w'.cell? ⟨(ad360.add ((t334).toNat * 2)).block, (ad360.add ((t334).toNat * 2)).off + 1, none⟩ = some (.string ((rd_T39 t323 t334).f1))) (ds := []) #[false, false, false, false, false, false, false, false, false, false, false, false, false, false, false, false, false, false, false, false, false, false, false, false, false, false, false, false, false, false, false, false, false, false, false, false, false, false] (by kernel_rfl) rfl rfl ⟨(blk_cell BK333.out 0).trans rfl, (blk_cell BK333.out 1).trans rfl, (blk_cell BK333.out 2).trans rfl, (blk_cell BK310.out 0).trans rfl, (blk_cell BK310.out 1).trans rfl, (blk_cell BK346.out 0).trans rfl, (blk_cell BK346.out 1).trans rfl, (blk_cell BK346.out 2).trans rfl, (blk_cell BK358.out 0).trans rfl, (blk_cell BK358.out 1).trans rfl, (blk_cell BK358.out 2).trans rfl, (blk_cell BK309.out 0).trans rfl, (blk_cell BK309.out 1).trans rfl, (blk_cell BK309.out 2).trans rfl, hx360_0, hx360_1⟩ (fun hHeld => ?_); refine with_tabW bazaarlaw06_NodeFinds.tab15 bazaarlaw06_NodeFinds.bits15 (fun HT_ HW_ => ?_)
                          generalize wc.drew = w89 at HO_310000 HO_310001 HO_310002 HO_334000 HO_334001 HO_334002 HO_347000 HO_347001 HO_347002 HO_359000 HO_359001 HO_359002 BK309 BK310 BK333 BK346 BK358 HB hx360_0 hx360_1 hHeld ⊢
                          refine pure_ (i := 0) (N := some 76) (v := ?_) (a' := ?_) #[true, false, false, false, false, false, false, false, false, false, false, false, false, false, false, false, false, false, false, false, false, false, false, false, false, false, false, false, false, false, false, false, false, false, false, false, false, false] rfl rfl (any_of HT_.out (by kernel_rfl)) (fun _ _ _ h => h) (Or.inl ⟨by rfl, ?_⟩) ?_ ?_
                          rotate_left
                          · intro w'
                            go_simp
                            with_reducible rfl
                          rotate_left
                          · simp only [Act.put, List.setIfInBounds_toArray, List.set_cons_zero, List.set_cons_succ, i64_w, i32_w]
                            rfl
                          refine pure_ (i := 1) (N := some 77) (v := ?_) (a' := ?_) #[true, true, false, false, false, false, false, false, false, false, false, false, false, false, false, false, false, false, false, false, false, false, false, false, false, false, false, false, false, false, false, false, false, false, false, false, false, false] rfl rfl (any_of HT_.out (by kernel_rfl)) (fun _ _ _ h => h) (Or.inl ⟨by rfl, ?_⟩) ?_ ?_
                          rotate_left
                          · intro w'
                            go_simp
                            with_reducible rfl
                          rotate_left
                          · simp only [Act.put, List.setIfInBounds_toArray, List.set_cons_zero, List.set_cons_succ, i64_w, i32_w]
                            rfl
                          refine pure_ (i := 2) (N := some 78) (v := ?_) (a' := ?_) #[true, true, true, false, false, false, false, false, false, false, false, false, false, false, false, false, false, false, false, false, false, false, false, false, false, false, false, false, false, false, false, false, false, false, false, false, false, false] rfl rfl (any_of HT_.out (by kernel_rfl)) (fun _ _ _ h => h) (Or.inl ⟨by rfl, ?_⟩) ?_ ?_
                          rotate_left
                          · intro w'
                            go_simp
                            with_reducible rfl
                          rotate_left
                          · simp only [Act.put, List.setIfInBounds_toArray, List.set_cons_zero, List.set_cons_succ, i64_w, i32_w]
                            rfl
                          refine pure_ (i := 4) (N := some 80) (v := ?_) (a' := ?_) #[true, true, true, false, true, false, false, false, false, false, false, false, false, false, false, false, false, false, false, false, false, false, false, false, false, false, false, false, false, false, false, false, false, false, false, false, false, false] rfl rfl (any_of HT_.out (by kernel_rfl)) (fun _ _ _ h => h) (Or.inl ⟨by rfl, ?_⟩) ?_ ?_
                          rotate_left
                          · intro w'
                            go_simp
                            with_reducible rfl
                          rotate_left
                          · simp only [Act.put, List.setIfInBounds_toArray, List.set_cons_zero, List.set_cons_succ, i64_w, i32_w]
                            rfl
                          refine take_ (i := 3) (N := some 79) (v := ?_) (a' := ?_) #[true, true, true, true, true, false, false, false, false, false, false, false, false, false, false, false, false, false, false, false, false, false, false, false, false, false, false, false, false, false, false, false, false, false, false, false, false, false] rfl rfl (take_ofW HT_.out HW_.out (by kernel_rfl)) (fun _ _ _ h => h) (Or.inl ⟨by rfl, ?_⟩) hHeld ?_ ?_
                          rotate_left
                          · rintro w' ⟨s0, s1, s2, s3, s4, s5, s6, s7, s8, s9, s10, s11, s12, s13, s14, s15⟩
                            go_simp
                            with_reducible rfl
                          rotate_left
                          · simp only [Act.put, List.setIfInBounds_toArray, List.set_cons_zero, List.set_cons_succ, i64_w, i32_w]
                            rfl
                          refine pure_ (i := 5) (N := some 81) (v := ?_) (a' := ?_) #[true, true, true, true, true, true, false, false, false, false, false, false, false, false, false, false, false, false, false, false, false, false, false, false, false, false, false, false, false, false, false, false, false, false, false, false, false, false] rfl rfl (any_of HT_.out (by kernel_rfl)) (fun _ _ _ h => h) (Or.inl ⟨by rfl, ?_⟩) ?_ ?_
                          rotate_left
                          · intro w'
                            go_simp
                            with_reducible rfl
                          rotate_left
                          · simp only [Act.put, List.setIfInBounds_toArray, List.set_cons_zero, List.set_cons_succ, i64_w, i32_w]
                            rfl
                          refine take_ (i := 6) (N := some 82) (v := ?_) (a' := ?_) #[true, true, true, true, true, true, true, false, false, false, false, false, false, false, false, false, false, false, false, false, false, false, false, false, false, false, false, false, false, false, false, false, false, false, false, false, false, false] rfl rfl (take_ofW HT_.out HW_.out (by kernel_rfl)) (fun _ _ _ h => h) (Or.inl ⟨by rfl, ?_⟩) hHeld ?_ ?_
                          rotate_left
                          · rintro w' ⟨s0, s1, s2, s3, s4, s5, s6, s7, s8, s9, s10, s11, s12, s13, s14, s15⟩
                            go_simp
                            with_reducible rfl
                          rotate_left
                          · simp only [Act.put, List.setIfInBounds_toArray, List.set_cons_zero, List.set_cons_succ, i64_w, i32_w]
                            rfl
                          refine take_ (i := 7) (N := some 83) (v := ?_) (a' := ?_) #[true, true, true, true, true, true, true, true, false, false, false, false, false, false, false, false, false, false, false, false, false, false, false, false, false, false, false, false, false, false, false, false, false, false, false, false, false, false] rfl rfl (take_ofW HT_.out HW_.out (by kernel_rfl)) (fun _ _ _ h => h) (Or.inl ⟨by rfl, ?_⟩) hHeld ?_ ?_
                          rotate_left
                          · rintro w' ⟨s0, s1, s2, s3, s4, s5, s6, s7, s8, s9, s10, s11, s12, s13, s14, s15⟩
                            go_simp
                            with_reducible rfl
                          rotate_left
                          · simp only [Act.put, List.setIfInBounds_toArray, List.set_cons_zero, List.set_cons_succ, i64_w, i32_w]
                            rfl
                          refine pure_ (i := 8) (N := some 84) (v := ?_) (a' := ?_) #[true, true, true, true, true, true, true, true, true, false, false, false, false, false, false, false, false, false, false, false, false, false, false, false, false, false, false, false, false, false, false, false, false, false, false, false, false, false] rfl rfl (any_of HT_.out (by kernel_rfl)) (fun _ _ _ h => h) (Or.inl ⟨by rfl, ?_⟩) ?_ ?_
                          rotate_left
                          · intro w'
                            go_simp
                            with_reducible rfl
                          rotate_left
                          · simp only [Act.put, List.setIfInBounds_toArray, List.set_cons_zero, List.set_cons_succ, i64_w, i32_w]
                            rfl
                          refine pure_ (i := 9) (N := some 85) (v := ?_) (a' := ?_) #[true, true, true, true, true, true, true, true, true, true, false, false, false, false, false, false, false, false, false, false, false, false, false, false, false, false, false, false, false, false, false, false, false, false, false, false, false, false] rfl rfl (any_of HT_.out (by kernel_rfl)) (fun _ _ _ h => h) (Or.inl ⟨by rfl, ?_⟩) ?_ ?_
                          rotate_left
                          · intro w'
                            go_simp
                            with_reducible rfl
                          rotate_left
                          · simp only [Act.put, List.setIfInBounds_toArray, List.set_cons_zero, List.set_cons_succ, i64_w, i32_w]
                            rfl
                          refine pure_ (i := 10) (N := some 86) (v := ?_) (a' := ?_) #[true, true, true, true, true, true, true, true, true, true, true, false, false, false, false, false, false, false, false, false, false, false, false, false, false, false, false, false, false, false, false, false, false, false, false, false, false, false] rfl rfl (any_of HT_.out (by kernel_rfl)) (fun _ _ _ h => h) (Or.inl ⟨by rfl, ?_⟩) ?_ ?_
                          rotate_left
                          · intro w'
                            go_simp
                            with_reducible rfl
                          rotate_left
                          · simp only [Act.put, List.setIfInBounds_toArray, List.set_cons_zero, List.set_cons_succ, i64_w, i32_w]
                            rfl
                          refine pure_ (i := 11) (N := some 87) (v := ?_) (a' := ?_) #[true, true, true, true, true, true, true, true, true, true, true, true, false, false, false, false, false, false, false, false, false, false, false, false, false, false, false, false, false, false, false, false, false, false, false, false, false, false] rfl rfl (any_of HT_.out (by kernel_rfl)) (fun _ _ _ h => h) (Or.inl ⟨by rfl, ?_⟩) ?_ ?_
                          rotate_left
                          · intro w'
                            go_simp
                            with_reducible rfl
                          rotate_left
                          · simp only [Act.put, List.setIfInBounds_toArray, List.set_cons_zero, List.set_cons_succ, i64_w, i32_w]
                            rfl
                          refine pure_ (i := 12) (N := some 88) (v := ?_) (a' := ?_) #[true, true, true, true, true, true, true, true, true, true, true, true, true, false, false, false, false, false, false, false, false, false, false, false, false, false, false, false, false, false, false, false, false, false, false, false, false, false] rfl rfl (any_of HT_.out (by kernel_rfl)) (fun _ _ _ h => h) (Or.inl ⟨by rfl, ?_⟩) ?_ ?_
                          rotate_left
                          · intro w'
                            go_simp
                            with_reducible rfl
                          rotate_left
                          · simp only [Act.put, List.setIfInBounds_toArray, List.set_cons_zero, List.set_cons_succ, i64_w, i32_w]
                            rfl
                          refine pure_ (i := 13) (N := some 89) (v := ?_) (a' := ?_) #[true, true, true, true, true, true, true, true, true, true, true, true, true, true, false, false, false, false, false, false, false, false, false, false, false, false, false, false, false, false, false, false, false, false, false, false, false, false] rfl rfl (any_of HT_.out (by kernel_rfl)) (fun _ _ _ h => h) (Or.inl ⟨by rfl, ?_⟩) ?_ ?_
                          rotate_left
                          · intro w'
                            go_simp
                            with_reducible rfl
                          rotate_left
                          · simp only [Act.put, List.setIfInBounds_toArray, List.set_cons_zero, List.set_cons_succ, i64_w, i32_w]
                            rfl
                          refine pure_ (i := 14) (N := some 90) (v := ?_) (a' := ?_) #[true, true, true, true, true, true, true, true, true, true, true, true, true, true, true, false, false, false, false, false, false, false, false, false, false, false, false, false, false, false, false, false, false, false, false, false, false, false] rfl rfl (any_of HT_.out (by kernel_rfl)) (fun _ _ _ h => h) (Or.inl ⟨by rfl, ?_⟩) ?_ ?_
                          rotate_left
                          · intro w'
                            go_simp
                            with_reducible rfl
                          rotate_left
                          · simp only [Act.put, List.setIfInBounds_toArray, List.set_cons_zero, List.set_cons_succ, i64_w, i32_w]
                            rfl
                          refine pure_ (i := 15) (N := some 91) (v := ?_) (a' := ?_) #[true, true, true, true, true, true, true, true, true, true, true, true, true, true, true, true, false, false, false, false, false, false, false, false, false, false, false, false, false, false, false, false, false, false, false, false, false, false] rfl rfl (any_of HT_.out (by kernel_rfl)) (fun _ _ _ h => h) (Or.inl ⟨by rfl, ?_⟩) ?_ ?_
                          rotate_left
                          · intro w'
                            go_simp
                            with_reducible rfl
                          rotate_left
                          · simp only [Act.put, List.setIfInBounds_toArray, List.set_cons_zero, List.set_cons_succ, i64_w, i32_w]
                            rfl
                          refine pure_ (i := 16) (N := some 92) (v := ?_) (a' := ?_) #[true, true, true, true, true, true, true, true, true, true, true, true, true, true, true, true, true, false, false, false, false, false, false, false, false, false, false, false, false, false, false, false, false, false, false, false, false, false] rfl rfl (any_of HT_.out (by kernel_rfl)) (fun _ _ _ h => h) (Or.inl ⟨by rfl, ?_⟩) ?_ ?_
                          rotate_left
                          · intro w'
                            go_simp
                            with_reducible rfl
                          rotate_left
                          · simp only [Act.put, List.setIfInBounds_toArray, List.set_cons_zero, List.set_cons_succ, i64_w, i32_w]
                            rfl
                          refine pure_ (i := 17) (N := some 93) (v := ?_) (a' := ?_) #[true, true, true, true, true, true, true, true, true, true, true, true, true, true, true, true, true, true, false, false, false, false, false, false, false, false, false, false, false, false, false, false, false, false, false, false, false, false] rfl rfl (any_of HT_.out (by kernel_rfl)) (fun _ _ _ h => h) (Or.inl ⟨by rfl, ?_⟩) ?_ ?_
                          rotate_left
                          · intro w'
                            go_simp
                            with_reducible rfl
                          rotate_left
                          · simp only [Act.put, List.setIfInBounds_toArray, List.set_cons_zero, List.set_cons_succ, i64_w, i32_w]
                            rfl
                          refine pure_ (i := 18) (N := some 94) (v := ?_) (a' := ?_) #[true, true, true, true, true, true, true, true, true, true, true, true, true, true, true, true, true, true, true, false, false, false, false, false, false, false, false, false, false, false, false, false, false, false, false, false, false, false] rfl rfl (any_of HT_.out (by kernel_rfl)) (fun _ _ _ h => h) (Or.inl ⟨by rfl, ?_⟩) ?_ ?_
                          rotate_left
                          · intro w'
                            go_simp
                            with_reducible rfl
                          rotate_left
                          · simp only [Act.put, List.setIfInBounds_toArray, List.set_cons_zero, List.set_cons_succ, i64_w, i32_w]
                            rfl
                          refine pure_ (i := 19) (N := some 95) (v := ?_) (a' := ?_) #[true, true, true, true, true, true, true, true, true, true, true, true, true, true, true, true, true, true, true, true, false, false, false, false, false, false, false, false, false, false, false, false, false, false, false, false, false, false] rfl rfl (any_of HT_.out (by kernel_rfl)) (fun _ _ _ h => h) (Or.inl ⟨by rfl, ?_⟩) ?_ ?_
                          rotate_left
                          · intro w'
                            go_simp
                            with_reducible rfl
                          rotate_left
                          · simp only [Act.put, List.setIfInBounds_toArray, List.set_cons_zero, List.set_cons_succ, i64_w, i32_w]
                            rfl
                          refine pure_ (i := 20) (N := some 96) (v := ?_) (a' := ?_) #[true, true, true, true, true, true, true, true, true, true, true, true, true, true, true, true, true, true, true, true, true, false, false, false, false, false, false, false, false, false, false, false, false, false, false, false, false, false] rfl rfl (any_of HT_.out (by kernel_rfl)) (fun _ _ _ h => h) (Or.inl ⟨by rfl, ?_⟩) ?_ ?_
                          rotate_left
                          · intro w'
                            go_simp
                            with_reducible rfl
                          rotate_left
                          · simp only [Act.put, List.setIfInBounds_toArray, List.set_cons_zero, List.set_cons_succ, i64_w, i32_w]
                            rfl
                          refine pure_ (i := 21) (N := some 97) (v := ?_) (a' := ?_) #[true, true, true, true, true, true, true, true, true, true, true, true, true, true, true, true, true, true, true, true, true, true, false, false, false, false, false, false, false, false, false, false, false, false, false, false, false, false] rfl rfl (any_of HT_.out (by kernel_rfl)) (fun _ _ _ h => h) (Or.inl ⟨by rfl, ?_⟩) ?_ ?_
                          rotate_left
                          · intro w'
                            go_simp
                            with_reducible rfl
                          rotate_left
                          · simp only [Act.put, List.setIfInBounds_toArray, List.set_cons_zero, List.set_cons_succ, i64_w, i32_w]
                            rfl
                          refine take_ (i := 22) (N := some 98) (v := ?_) (a' := ?_) #[true, true, true, true, true, true, true, true, true, true, true, true, true, true, true, true, true, true, true, true, true, true, true, false, false, false, false, false, false, false, false, false, false, false, false, false, false, false] rfl rfl (take_ofW HT_.out HW_.out (by kernel_rfl)) (fun _ _ _ h => h) (Or.inl ⟨by rfl, ?_⟩) hHeld ?_ ?_
                          rotate_left
                          · rintro w' ⟨s0, s1, s2, s3, s4, s5, s6, s7, s8, s9, s10, s11, s12, s13, s14, s15⟩
                            go_simp
                            with_reducible rfl
                          rotate_left
                          · simp only [Act.put, List.setIfInBounds_toArray, List.set_cons_zero, List.set_cons_succ, i64_w, i32_w]
                            rfl
                          refine take_ (i := 23) (N := some 99) (v := ?_) (a' := ?_) #[true, true, true, true, true, true, true, true, true, true, true, true, true, true, true, true, true, true, true, true, true, true, true, true, false, false, false, false, false, false, false, false, false, false, false, false, false, false] rfl rfl (take_ofW HT_.out HW_.out (by kernel_rfl)) (fun _ _ _ h => h) (Or.inl ⟨by rfl, ?_⟩) hHeld ?_ ?_
                          rotate_left
                          · rintro w' ⟨s0, s1, s2, s3, s4, s5, s6, s7, s8, s9, s10, s11, s12, s13, s14, s15⟩
                            go_simp
                            with_reducible rfl
                          rotate_left
                          · simp only [Act.put, List.setIfInBounds_toArray, List.set_cons_zero, List.set_cons_succ, i64_w, i32_w]
                            rfl
                          refine one_ (i := 24) (N := some 100) #[true, true, true, true, true, true, true, true, true, true, true, true, true, true, true, true, true, true, true, true, true, true, true, true, true, false, false, false, false, false, false, false, false, false, false, false, false, false] rfl rfl (one_of HT_.out (by kernel_rfl)) (by decide) (fun K hK => ?_)
                          refine goes_ Try.func26 (by kernel_rfl) rfl #[.agg #[.slice Ao45 t335.length co45, .slice Ao50 t338.length co50, .slice Ao51 t341.length co51], .agg #[.slice Ao56 t347.length co56, .slice Ao62 t350.length co62, .slice Ao63 t353.length co63]] (by rfl) rfl rfl (by (try simp only [List.map_toArray, List.map_cons, List.map_nil]); first | done | rfl | (simp only [List.length_drop, List.length_take]; rfl)) ?_
                          with_reducible refine (bazaarref06_Same.calls kj11 _ _ t335 _ _ t338 _ _ t341 _ _ t347 _ _ t350 _ _ t353 true _ ?side1 ?side2 ?side3 ?side4 ?side5 ?side6 ?side7 ?side8 ?side9 ?side10 ?side11 ?side12 A87.out).mono ?_
                          (case side1 => repeat (first | exact (Kd.R_reads' HO_347000.out).2.2 | (with_reducible refine Kd.C_alloc ?_ _) | (with_reducible refine Kd.C_drewN ?_ _) | (with_reducible refine Kd.C_drew ?_)))
                          (case side2 => exact (Kd.R_reads' HO_347000.out).2.1)
                          (case side3 => repeat (first | exact (Kd.R_reads' HO_347001.out).2.2 | (with_reducible refine Kd.C_alloc ?_ _) | (with_reducible refine Kd.C_drewN ?_ _) | (with_reducible refine Kd.C_drew ?_)))
                          (case side4 => exact (Kd.R_reads' HO_347001.out).2.1)
                          (case side5 => repeat (first | exact (Kd.R_reads' HO_347002.out).2.2 | (with_reducible refine Kd.C_alloc ?_ _) | (with_reducible refine Kd.C_drewN ?_ _) | (with_reducible refine Kd.C_drew ?_)))
                          (case side6 => exact (Kd.R_reads' HO_347002.out).2.1)
                          (case side7 => repeat (first | exact (Kd.R_reads' HO_359000.out).2.2 | (with_reducible refine Kd.C_alloc ?_ _) | (with_reducible refine Kd.C_drewN ?_ _) | (with_reducible refine Kd.C_drew ?_)))
                          (case side8 => exact (Kd.R_reads' HO_359000.out).2.1)
                          (case side9 => repeat (first | exact (Kd.R_reads' HO_359001.out).2.2 | (with_reducible refine Kd.C_alloc ?_ _) | (with_reducible refine Kd.C_drewN ?_ _) | (with_reducible refine Kd.C_drew ?_)))
                          (case side10 => exact (Kd.R_reads' HO_359001.out).2.1)
                          (case side11 => repeat (first | exact (Kd.R_reads' HO_359002.out).2.2 | (with_reducible refine Kd.C_alloc ?_ _) | (with_reducible refine Kd.C_drewN ?_ _) | (with_reducible refine Kd.C_drew ?_)))
                          (case side12 => exact (Kd.R_reads' HO_359002.out).2.1)
                          rintro e w90 ⟨rfl, hb⟩
                          have HS14_ := (hb.cell (World.block_lt_of_cell? _ _ (hHeld.2.2.2.2.2.2.2.2.2.2.2.2.2.2.1))).trans (hHeld.2.2.2.2.2.2.2.2.2.2.2.2.2.2.1)
                          have HS15_ := (hb.cell (World.block_lt_of_cell? _ _ (hHeld.2.2.2.2.2.2.2.2.2.2.2.2.2.2.2))).trans (hHeld.2.2.2.2.2.2.2.2.2.2.2.2.2.2.2)
                          refine ⟨_, rfl, ?_⟩
                          have n0_ := Aside0.mk (Kd.R_below (by (with_reducible repeat (first | apply Kd.R_alloc | apply Kd.R_drewN | apply Kd.R_drew)); exact HO_310000.out) hb)
                          have n1_ := Aside0.mk (Kd.R_below (by (with_reducible repeat (first | apply Kd.R_alloc | apply Kd.R_drewN | apply Kd.R_drew)); exact HO_310001.out) hb)
                          have n2_ := Aside0.mk (Kd.R_below (by (with_reducible repeat (first | apply Kd.R_alloc | apply Kd.R_drewN | apply Kd.R_drew)); exact HO_310002.out) hb)
                          have n3_ := Aside0.mk (Kd.R_below (by (with_reducible repeat (first | apply Kd.R_alloc | apply Kd.R_drewN | apply Kd.R_drew)); exact HO_334000.out) hb)
                          have n4_ := Aside0.mk (Kd.R_below (by (with_reducible repeat (first | apply Kd.R_alloc | apply Kd.R_drewN | apply Kd.R_drew)); exact HO_334001.out) hb)
                          have n5_ := Aside0.mk (Kd.R_below (by (with_reducible repeat (first | apply Kd.R_alloc | apply Kd.R_drewN | apply Kd.R_drew)); exact HO_334002.out) hb)
                          have n6_ := Aside0.mk (Kd.R_below (by (with_reducible repeat (first | apply Kd.R_alloc | apply Kd.R_drewN | apply Kd.R_drew)); exact HO_347000.out) hb)
                          have n7_ := Aside0.mk (Kd.R_below (by (with_reducible repeat (first | apply Kd.R_alloc | apply Kd.R_drewN | apply Kd.R_drew)); exact HO_347001.out) hb)
                          have n8_ := Aside0.mk (Kd.R_below (by (with_reducible repeat (first | apply Kd.R_alloc | apply Kd.R_drewN | apply Kd.R_drew)); exact HO_347002.out) hb)
                          have n9_ := Aside0.mk (Kd.R_below (by (with_reducible repeat (first | apply Kd.R_alloc | apply Kd.R_drewN | apply Kd.R_drew)); exact HO_359000.out) hb)
                          have n10_ := Aside0.mk (Kd.R_below (by (with_reducible repeat (first | apply Kd.R_alloc | apply Kd.R_drewN | apply Kd.R_drew)); exact HO_359001.out) hb)
                          have n11_ := Aside0.mk (Kd.R_below (by (with_reducible repeat (first | apply Kd.R_alloc | apply Kd.R_drewN | apply Kd.R_drew)); exact HO_359002.out) hb)
                          have n12_ := Aside0.mk (blk_below (g := gb309) (o := .cells #[.slice Ao19 t312.length co19, .slice Ao21 t315.length co21, .slice Ao22 t318.length co22] 26 (0, 0)) (by (with_reducible repeat (first | refine blk_drewN ?_ _ | refine blk_drew ?_ | refine blk_alloc ?_ _)); exact BK309.out) hb)
                          have n13_ := Aside0.mk (blk_below (g := gb310) (o := .cells #[.string t321, .string t322] 39 (0, 0)) (by (with_reducible repeat (first | refine blk_drewN ?_ _ | refine blk_drew ?_ | refine blk_alloc ?_ _)); exact BK310.out) hb)
                          have n14_ := Aside0.mk (blk_below (g := gb333) (o := .cells #[.slice (some ad360) t323.length co33, .slice Ao37 t326.length co37, .slice Ao38 t329.length co38] 26 (0, 0)) (by (with_reducible repeat (first | refine blk_drewN ?_ _ | refine blk_drew ?_ | refine blk_alloc ?_ _)); exact BK333.out) hb)
                          have n15_ := Aside0.mk (blk_below (g := gb346) (o := .cells #[.slice Ao45 t335.length co45, .slice Ao50 t338.length co50, .slice Ao51 t341.length co51] 26 (0, 0)) (by (with_reducible repeat (first | refine blk_drewN ?_ _ | refine blk_drew ?_ | refine blk_alloc ?_ _)); exact BK346.out) hb)
                          have n16_ := Aside0.mk (blk_below (g := gb358) (o := .cells #[.slice Ao56 t347.length co56, .slice Ao62 t350.length co62, .slice Ao63 t353.length co63] 26 (0, 0)) (by (with_reducible repeat (first | refine blk_drewN ?_ _ | refine blk_drew ?_ | refine blk_alloc ?_ _)); exact BK358.out) hb)
                          have n17_ := Aside0.mk (below_step (by repeat (first | (with_reducible first | exact HB.out | apply below_alloc | apply pw_below_drewN | apply below_drew1 | refine below_set ?_ GE309.out | refine below_set ?_ GE310.out | refine below_set ?_ GE333.out | refine below_set ?_ GE346.out | refine below_set ?_ GE358.out) | exact HB.out)) hb)
                          clear HO_310000
                          clear HO_310001
                          clear HO_310002
                          clear HO_334000
                          clear HO_334001
                          clear HO_334002
                          clear HO_347000
                          clear HO_347001
                          clear HO_347002
                          clear HO_359000
                          clear HO_359001
                          clear HO_359002
                          clear BK309
                          clear BK310
                          clear BK333
                          clear BK346
                          clear BK358
                          clear HB
                          have HO_310000 := n0_
                          have HO_310001 := n1_
                          have HO_310002 := n2_
                          have HO_334000 := n3_
                          have HO_334001 := n4_
                          have HO_334002 := n5_
                          have HO_347000 := n6_
                          have HO_347001 := n7_
                          have HO_347002 := n8_
                          have HO_359000 := n9_
                          have HO_359001 := n10_
                          have HO_359002 := n11_
                          have BK309 := n12_
                          have BK310 := n13_
                          have BK333 := n14_
                          have BK346 := n15_
                          have BK358 := n16_
                          have HB := n17_
                          clear n0_ n1_ n2_ n3_ n4_ n5_ n6_ n7_ n8_ n9_ n10_ n11_ n12_ n13_ n14_ n15_ n16_ n17_
                          (try clear hb)
                          (try clear hb2)
                          (try clear hk)
                          (try clear hi)
                          refine hK.out _ _ ⟨(blk_cell BK333.out 0).trans rfl, (blk_cell BK333.out 1).trans rfl, (blk_cell BK333.out 2).trans rfl, (blk_cell BK310.out 0).trans rfl, (blk_cell BK310.out 1).trans rfl, (blk_cell BK346.out 0).trans rfl, (blk_cell BK346.out 1).trans rfl, (blk_cell BK346.out 2).trans rfl, (blk_cell BK358.out 0).trans rfl, (blk_cell BK358.out 1).trans rfl, (blk_cell BK358.out 2).trans rfl, (blk_cell BK309.out 0).trans rfl, (blk_cell BK309.out 1).trans rfl, (blk_cell BK309.out 2).trans rfl, HS14_, HS15_⟩ (fun hHeld => ?_)
                          clear hK K
                          refine norm_ (a' := ?_) ?_ ?_
                          rotate_left
                          · show Act.put _ (some 100) _ = _
                            simp only [Act.put, List.setIfInBounds_toArray, List.set_cons_zero, List.set_cons_succ, i64_w, i32_w]
                            rfl
                          refine pure_ (i := 25) (N := some 101) (v := ?_) (a' := ?_) #[true, true, true, true, true, true, true, true, true, true, true, true, true, true, true, true, true, true, true, true, true, true, true, true, true, true, false, false, false, false, false, false, false, false, false, false, false, false] rfl rfl (any_of HT_.out (by kernel_rfl)) (fun _ _ _ h => h) (Or.inl ⟨by rfl, ?_⟩) ?_ ?_
                          rotate_left
                          · intro w'
                            go_simp
                            with_reducible rfl
                          rotate_left
                          · simp only [Act.put, List.setIfInBounds_toArray, List.set_cons_zero, List.set_cons_succ, i64_w, i32_w]
                            rfl
                          refine pure_ (i := 26) (N := some 102) (v := ?_) (a' := ?_) #[true, true, true, true, true, true, true, true, true, true, true, true, true, true, true, true, true, true, true, true, true, true, true, true, true, true, true, false, false, false, false, false, false, false, false, false, false, false] rfl rfl (any_of HT_.out (by kernel_rfl)) (fun _ _ _ h => h) (Or.inl ⟨by rfl, ?_⟩) ?_ ?_
                          rotate_left
                          · intro w'
                            go_simp
                            with_reducible rfl
                          rotate_left
                          · simp only [Act.put, List.setIfInBounds_toArray, List.set_cons_zero, List.set_cons_succ, i64_w, i32_w]
                            rfl
                          refine pure_ (i := 27) (N := some 103) (v := ?_) (a' := ?_) #[true, true, true, true, true, true, true, true, true, true, true, true, true, true, true, true, true, true, true, true, true, true, true, true, true, true, true, true, false, false, false, false, false, false, false, false, false, false] rfl rfl (any_of HT_.out (by kernel_rfl)) (fun _ _ _ h => h) (Or.inl ⟨by rfl, ?_⟩) ?_ ?_
                          rotate_left
                          · intro w'
                            go_simp
                            with_reducible rfl
                          rotate_left
                          · simp only [Act.put, List.setIfInBounds_toArray, List.set_cons_zero, List.set_cons_succ, i64_w, i32_w]
                            rfl
                          refine pure_ (i := 30) (N := some 106) (v := ?_) (a' := ?_) #[true, true, true, true, true, true, true, true, true, true, true, true, true, true, true, true, true, true, true, true, true, true, true, true, true, true, true, true, false, false, true, false, false, false, false, false, false, false] rfl rfl (any_of HT_.out (by kernel_rfl)) (fun _ _ _ h => h) (Or.inl ⟨by rfl, ?_⟩) ?_ ?_
                          rotate_left
                          · intro w'
                            go_simp
                            with_reducible rfl
                          rotate_left
                          · simp only [Act.put, List.setIfInBounds_toArray, List.set_cons_zero, List.set_cons_succ, i64_w, i32_w]
                            rfl
                          refine pure_ (i := 33) (N := some 109) (v := ?_) (a' := ?_) #[true, true, true, true, true, true, true, true, true, true, true, true, true, true, true, true, true, true, true, true, true, true, true, true, true, true, true, true, false, false, true, false, false, true, false, false, false, false] rfl rfl (any_of HT_.out (by kernel_rfl)) (fun _ _ _ h => h) (Or.inl ⟨by rfl, ?_⟩) ?_ ?_
                          rotate_left
                          · intro w'
                            go_simp
                            with_reducible rfl
                          rotate_left
                          · simp only [Act.put, List.setIfInBounds_toArray, List.set_cons_zero, List.set_cons_succ, i64_w, i32_w]
                            rfl
                          refine take_ (i := 28) (N := some 104) (v := ?_) (a' := ?_) #[true, true, true, true, true, true, true, true, true, true, true, true, true, true, true, true, true, true, true, true, true, true, true, true, true, true, true, true, true, false, true, false, false, true, false, false, false, false] rfl rfl (take_ofW HT_.out HW_.out (by kernel_rfl)) (fun _ _ _ h => h) (Or.inl ⟨by rfl, ?_⟩) hHeld ?_ ?_
                          rotate_left
                          · rintro w' ⟨s0, s1, s2, s3, s4, s5, s6, s7, s8, s9, s10, s11, s12, s13, s14, s15⟩
                            go_simp
                            with_reducible rfl
                          rotate_left
                          · simp only [Act.put, List.setIfInBounds_toArray, List.set_cons_zero, List.set_cons_succ, i64_w, i32_w]
                            rfl
                          refine pure_ (i := 29) (N := some 105) (v := ?_) (a' := ?_) #[true, true, true, true, true, true, true, true, true, true, true, true, true, true, true, true, true, true, true, true, true, true, true, true, true, true, true, true, true, true, true, false, false, true, false, false, false, false] rfl rfl (any_of HT_.out (by kernel_rfl)) (fun _ _ _ h => h) (Or.inl ⟨by rfl, ?_⟩) ?_ ?_
                          rotate_left
                          · intro w'
                            go_simp
                            with_reducible rfl
                          rotate_left
                          · simp only [Act.put, List.setIfInBounds_toArray, List.set_cons_zero, List.set_cons_succ, i64_w, i32_w]
                            rfl
                          refine take_ (i := 31) (N := some 107) (v := ?_) (a' := ?_) #[true, true, true, true, true, true, true, true, true, true, true, true, true, true, true, true, true, true, true, true, true, true, true, true, true, true, true, true, true, true, true, true, false, true, false, false, false, false] rfl rfl (take_ofW HT_.out HW_.out (by kernel_rfl)) (fun _ _ _ h => h) (Or.inl ⟨by rfl, ?_⟩) hHeld ?_ ?_
                          rotate_left
                          · rintro w' ⟨s0, s1, s2, s3, s4, s5, s6, s7, s8, s9, s10, s11, s12, s13, s14, s15⟩
                            go_simp
                            with_reducible rfl
                          rotate_left
                          · simp only [Act.put, List.setIfInBounds_toArray, List.set_cons_zero, List.set_cons_succ, i64_w, i32_w]
                            rfl
                          refine pure_ (i := 32) (N := some 108) (v := ?_) (a' := ?_) #[true, true, true, true, true, true, true, true, true, true, true, true, true, true, true, true, true, true, true, true, true, true, true, true, true, true, true, true, true, true, true, true, true, true, false, false, false, false] rfl rfl (any_of HT_.out (by kernel_rfl)) (fun _ _ _ h => h) (Or.inl ⟨by rfl, ?_⟩) ?_ ?_
                          rotate_left
                          · intro w'
                            go_simp
                            with_reducible rfl
                          rotate_left
                          · simp only [Act.put, List.setIfInBounds_toArray, List.set_cons_zero, List.set_cons_succ, i64_w, i32_w]
                            rfl
                          refine pure_ (i := 34) (N := some 110) (v := ?_) (a' := ?_) #[true, true, true, true, true, true, true, true, true, true, true, true, true, true, true, true, true, true, true, true, true, true, true, true, true, true, true, true, true, true, true, true, true, true, true, false, false, false] rfl rfl (any_of HT_.out (by kernel_rfl)) (fun _ _ _ h => h) (Or.inl ⟨by rfl, ?_⟩) ?_ ?_
                          rotate_left
                          · intro w'
                            go_simp
                            with_reducible rfl
                          rotate_left
                          · simp only [Act.put, List.setIfInBounds_toArray, List.set_cons_zero, List.set_cons_succ, i64_w, i32_w]
                            rfl
                          refine pure_ (i := 35) (N := some 111) (v := ?_) (a' := ?_) #[true, true, true, true, true, true, true, true, true, true, true, true, true, true, true, true, true, true, true, true, true, true, true, true, true, true, true, true, true, true, true, true, true, true, true, true, false, false] rfl rfl (any_of HT_.out (by kernel_rfl)) (fun _ _ _ h => h) (Or.inl ⟨by rfl, ?_⟩) ?_ ?_
                          rotate_left
                          · intro w'
                            go_simp
                            with_reducible rfl
                          rotate_left
                          · simp only [Act.put, List.setIfInBounds_toArray, List.set_cons_zero, List.set_cons_succ, i64_w, i32_w]
                            rfl
                          refine pure_ (i := 36) (N := some 112) (v := ?_) (a' := ?_) #[true, true, true, true, true, true, true, true, true, true, true, true, true, true, true, true, true, true, true, true, true, true, true, true, true, true, true, true, true, true, true, true, true, true, true, true, true, false] rfl rfl (any_of HT_.out (by kernel_rfl)) (fun _ _ _ h => h) (Or.inl ⟨by rfl, ?_⟩) ?_ ?_
                          rotate_left
                          · intro w'
                            go_simp
                            with_reducible rfl
                          rotate_left
                          · simp only [Act.put, List.setIfInBounds_toArray, List.set_cons_zero, List.set_cons_succ, i64_w, i32_w]
                            rfl
                          refine pure_ (i := 37) (N := some 4) (v := ?_) (a' := ?_) #[true, true, true, true, true, true, true, true, true, true, true, true, true, true, true, true, true, true, true, true, true, true, true, true, true, true, true, true, true, true, true, true, true, true, true, true, true, true] rfl rfl (any_of HT_.out (by kernel_rfl)) (fun _ _ _ h => h) (Or.inl ⟨by rfl, ?_⟩) ?_ ?_
                          rotate_left
                          · intro w'
                            go_simp
                            with_reducible rfl
                          rotate_left
                          · simp only [Act.put, List.setIfInBounds_toArray, List.set_cons_zero, List.set_cons_succ, i64_w, i32_w]
                            rfl
                          refine done_ (done_of HT_.out (by kernel_rfl)) ?_
                          try go_wp2
                          go_ret
                          exact ⟨by first | rfl | (simp [errW_none, errW_some] <;> rfl) | (simp [errW_none, errW_some]; exact ⟨rfl, rfl, rfl⟩) | (simp [*, errW_none, errW_some] <;> rfl), by repeat (first | (with_reducible first | exact HB.out | apply below_alloc | apply pw_below_drewN | apply below_drew1 | refine below_set ?_ GE309.out | refine below_set ?_ GE310.out | refine below_set ?_ GE333.out | refine below_set ?_ GE346.out | refine below_set ?_ GE358.out) | exact HB.out)⟩
                        · replace c88 := Bool.eq_false_iff.mpr c88
                          subst c88
                          have H1 : (some false) = some r := by rw [if_neg (show ¬ (false = true) by decide)] at H; exact H
                          clear H
                          have H := H1
                          clear H1
                          obtain rfl := Option.some.inj H
                          cases hr_
                      · rw [if_neg c86] at H
                        have c86b0 : (t357 == 0) = false := beq_eq_false_iff_ne.mpr c86
                        have c86b1 : (t357 != 0) = true := bne_iff_ne.mpr c86
                        obtain rfl := Option.some.inj H
                        cases hr_
                    · rw [if_neg c85] at H
                      have c85b0 : (t345 == 0) = false := beq_eq_false_iff_ne.mpr c85
                      have c85b1 : (t345 != 0) = true := bne_iff_ne.mpr c85
                      obtain rfl := Option.some.inj H
                      cases hr_
                  · replace c84 := Bool.eq_false_iff.mpr c84
                    subst c84
                    have H1 : (some false) = some r := by rw [if_neg (show ¬ (false = true) by decide)] at H; exact H
                    clear H
                    have H := H1
                    clear H1
                    obtain rfl := Option.some.inj H
                    cases hr_
                · rw [if_neg c83] at H
                  have c83b0 : ((((rd_T39 t323 t334).f0).toList) == t321.toList && ((((rd_T39 t323 t334).f1).toList) == t322.toList)) = false := by simpa using c83
                  (try (have c83b1 : decide ((((rd_T39 t323 t334).f0).toList) = t321.toList && ((((rd_T39 t323 t334).f1).toList) == t322.toList)) = false := by simpa using c83))
                  (try (have c83b2 : ((((rd_T39 t323 t334).f0).toList) == t321.toList && ((((rd_T39 t323 t334).f1).toList) == t322.toList)) = false := by simpa using c83))
                  (try (have c83b3 : ¬ ((((rd_T39 t323 t334).f0).toList) = t321.toList && ((((rd_T39 t323 t334).f1).toList) == t322.toList)) := by simpa using c83))
                  clear c83
                  obtain rfl := Option.some.inj H
                  cases hr_
              · rw [if_neg c82] at H
                exact absurd H (by simp)
            · rw [if_neg c81] at H
              exact absurd H (by simp)
          · replace c80 := Bool.eq_false_iff.mpr c80
            subst c80
            have H1 : (some false) = some r := by rw [if_neg (show ¬ (false = true) by decide)] at H; exact H
            clear H
            have H := H1
            clear H1
            obtain rfl := Option.some.inj H
            cases hr_
        · replace c79 := Bool.eq_false_iff.mpr c79
          subst c79
          have H1 : (if t311 = true then (if 0 ≤ t334 then (if t334 < (t323.length : Int) then (if ((((rd_T39 t323 t334).f0).toList) == t321.toList && ((((rd_T39 t323 t334).f1).toList) == t322.toList)) = true then (if t344 = true then (if t345 = 0 then (if t357 = 0 then ((bazaarref06_Same.f kj11 t335 t338 t341 t347 t350 t353).bind fun t363 => (if t363 = true then (some ((t323.length : Int) == (wrap64 ((t312.length : Int) + 1)))) else (some false))) else (some false)) else (some false)) else (some false)) else (some false)) else (none)) else (none)) else (some false)) = some r := by rw [if_neg (show ¬ (false = true) by decide)] at H; exact H
          clear H
          have H := H1
          clear H1
          by_cases c98 : t311 = true
          · subst c98
            have H1 : (if 0 ≤ t334 then (if t334 < (t323.length : Int) then (if ((((rd_T39 t323 t334).f0).toList) == t321.toList && ((((rd_T39 t323 t334).f1).toList) == t322.toList)) = true then (if t344 = true then (if t345 = 0 then (if t357 = 0 then ((bazaarref06_Same.f kj11 t335 t338 t341 t347 t350 t353).bind fun t363 => (if t363 = true then (some ((t323.length : Int) == (wrap64 ((t312.length : Int) + 1)))) else (some false))) else (some false)) else (some false)) else (some false)) else (some false)) else (none)) else (none)) = some r := by rw [if_pos rfl] at H; exact H
            clear H
            have H := H1
            clear H1
            by_cases c99 : 0 ≤ t334
            · rw [if_pos c99] at H
              have c99b0 : decide (0 ≤ t334) = true := decide_eq_true c99
              clear c99
              by_cases c100 : t334 < (t323.length : Int)
              · rw [if_pos c100] at H
                have c100b0 : decide (t334 < (t323.length : Int)) = true := decide_eq_true c100
                clear c100
                by_cases c101 : ((((rd_T39 t323 t334).f0).toList) == t321.toList && ((((rd_T39 t323 t334).f1).toList) == t322.toList)) = true
                · rw [if_pos c101] at H
                  have c101b0 : ((((rd_T39 t323 t334).f0).toList) == t321.toList && ((((rd_T39 t323 t334).f1).toList) == t322.toList)) = true := c101
                  (try (have c101b1 : decide ((((rd_T39 t323 t334).f0).toList) = t321.toList && ((((rd_T39 t323 t334).f1).toList) == t322.toList)) = true := by simpa using c101))
                  (try (have c101b2 : ((((rd_T39 t323 t334).f0).toList) == t321.toList && ((((rd_T39 t323 t334).f1).toList) == t322.toList)) = true := by simpa using c101))
                  clear c101
                  by_cases c102 : t344 = true
                  · subst c102
                    have H1 : (if t345 = 0 then (if t357 = 0 then ((bazaarref06_Same.f kj11 t335 t338 t341 t347 t350 t353).bind fun t363 => (if t363 = true then (some ((t323.length : Int) == (wrap64 ((t312.length : Int) + 1)))) else (some false))) else (some false)) else (some false)) = some r := by rw [if_pos rfl] at H; exact H
                    clear H
                    have H := H1
                    clear H1
                    by_cases c103 : t345 = 0
                    · rw [if_pos c103] at H
                      have c103b0 : (t345 == 0) = true := beq_iff_eq.mpr c103
                      have c103b1 : (t345 != 0) = false := bne_eq_false_iff_eq.mpr c103
                      clear c103
                      by_cases c104 : t357 = 0
                      · rw [if_pos c104] at H
                        have c104b0 : (t357 == 0) = true := beq_iff_eq.mpr c104
                        have c104b1 : (t357 != 0) = false := bne_eq_false_iff_eq.mpr c104
                        clear c104
                        replace H := Option.bind_eq_some_iff.mp H
                        obtain ⟨t363, A1050, H⟩ := H
                        replace H : (if t363 = true then (some ((t323.length : Int) == (wrap64 ((t312.length : Int) + 1)))) else (some false)) = some r := H
                        have A105 := Aside0.mk A1050
                        clear A1050
                        by_cases c106 : t363 = true
                        · subst c106
                          have H1 : (some ((t323.length : Int) == (wrap64 ((t312.length : Int) + 1)))) = some r := by rw [if_pos rfl] at H; exact H
                          clear H
                          have H := H1
                          clear H1
                          obtain rfl := Option.some.inj H
                          try go_wp2
                          have n0_ := Aside0.mk (Kd.R_drew HO_310000.out)
                          have n1_ := Aside0.mk (Kd.R_drew HO_310001.out)
                          have n2_ := Aside0.mk (Kd.R_drew HO_310002.out)
                          have n3_ := Aside0.mk (Kd.R_drew HO_334000.out)
                          have n4_ := Aside0.mk (Kd.R_drew HO_334001.out)
                          have n5_ := Aside0.mk (Kd.R_drew HO_334002.out)
                          have n6_ := Aside0.mk (Kd.R_drew HO_347000.out)
                          have n7_ := Aside0.mk (Kd.R_drew HO_347001.out)
                          have n8_ := Aside0.mk (Kd.R_drew HO_347002.out)
                          have n9_ := Aside0.mk (Kd.R_drew HO_359000.out)
                          have n10_ := Aside0.mk (Kd.R_drew HO_359001.out)
                          have n11_ := Aside0.mk (Kd.R_drew HO_359002.out)
                          have n12_ := Aside0.mk (blk_drew BK309.out)
                          have n13_ := Aside0.mk (blk_drew BK310.out)
                          have n14_ := Aside0.mk (blk_drew BK333.out)
                          have n15_ := Aside0.mk (blk_drew BK346.out)
                          have n16_ := Aside0.mk (blk_drew BK358.out)
                          have n17_ := Aside0.mk (below_drew1 HB.out)
                          clear HO_310000
                          clear HO_310001
                          clear HO_310002
                          clear HO_334000
                          clear HO_334001
                          clear HO_334002
                          clear HO_347000
                          clear HO_347001
                          clear HO_347002
                          clear HO_359000
                          clear HO_359001
                          clear HO_359002
                          clear BK309
                          clear BK310
                          clear BK333
                          clear BK346
                          clear BK358
                          clear HB
                          have HO_310000 := n0_
                          have HO_310001 := n1_
                          have HO_310002 := n2_
                          have HO_334000 := n3_
                          have HO_334001 := n4_
                          have HO_334002 := n5_
                          have HO_347000 := n6_
                          have HO_347001 := n7_
                          have HO_347002 := n8_
                          have HO_359000 := n9_
                          have HO_359001 := n10_
                          have HO_359002 := n11_
                          have BK309 := n12_
                          have BK310 := n13_
                          have BK333 := n14_
                          have BK346 := n15_
                          have BK358 := n16_
                          have HB := n17_
                          clear n0_ n1_ n2_ n3_ n4_ n5_ n6_ n7_ n8_ n9_ n10_ n11_ n12_ n13_ n14_ n15_ n16_ n17_
                          have p362 : 0 ≤ (t334 : Int) := of_decide_eq_true (by first | (with_reducible assumption) | assumption)
                          have q362 : t334 < (t323.length : Int) := of_decide_eq_true (by first | (with_reducible assumption) | assumption)
                          obtain ⟨ad362, e362, hx362_0, hx362_1⟩ := at_T39 (Kd.R_reads' HO_334000.out).2.2 t334 p362 q362
                          cases e362
                          replace p362 := eq_true p362
                          replace q362 := eq_true q362
                          refine start_ (n := 38) (S := fun w' => w'.cell? ⟨gb333, 0, none⟩ = some (.slice (some ad362) t323.length co33) ∧ w'.cell? ⟨gb333, 1, none⟩ = some (.slice Ao37 t326.length co37) ∧ w'.cell? ⟨gb333, 2, none⟩ = some (.slice Ao38 t329.length co38) ∧ w'.cell? ⟨gb310, 0, none⟩ = some (.string t321) ∧ w'.cell? ⟨gb310, 1, none⟩ = some (.string t322) ∧ w'.cell? ⟨gb346, 0, none⟩ = some (.slice Ao45 t335.length co45) ∧ w'.cell? ⟨gb346, 1, none⟩ = some (.slice Ao50 t338.length co50) ∧ w'.cell? ⟨gb346, 2, none⟩ = some (.slice Ao51 t341.length co51) ∧ w'.cell? ⟨gb358, 0, none⟩ = some (.slice Ao56 t347.length co56) ∧ w'.cell? ⟨gb358, 1, none⟩ = some (.slice Ao62 t350.length co62) ∧ w'.cell? ⟨gb358, 2, none⟩ = some (.slice Ao63 t353.length co63) ∧ w'.cell? ⟨gb309, 0, none⟩ = some (.slice Ao19 t312.length co19) ∧ w'.cell? ⟨gb309, 1, none⟩ = some (.slice Ao21 t315.length co21) ∧ w'.cell? ⟨gb309, 2, none⟩ = some (.slice Ao22 t318.length co22) ∧ w'.cell? (ad362.add ((t334).toNat * 2)) = some (.string ((rd_T39 t323 t334).f0)) ∧ w'.cell? ⟨(ad362.add ((t334).toNat * 2)).block, (ad362.add ((t334).toNat * 2)).off + 1, none⟩ = some (.string ((rd_T39 t323 t334).f1))) (ds := []) #[false, false, false, false, false, false, false, false, false, false, false, false, false, false, false, false, false, false, false, false, false, false, false, false, false, false, false, false, false, false, false, false, false, false, false, false, false, false] (by kernel_rfl) rfl rfl ⟨(blk_cell BK333.out 0).trans rfl, (blk_cell BK333.out 1).trans rfl, (blk_cell BK333.out 2).trans rfl, (blk_cell BK310.out 0).trans rfl, (blk_cell BK310.out 1).trans rfl, (blk_cell BK346.out 0).trans rfl, (blk_cell BK346.out 1).trans rfl, (blk_cell BK346.out 2).trans rfl, (blk_cell BK358.out 0).trans rfl, (blk_cell BK358.out 1).trans rfl, (blk_cell BK358.out 2).trans rfl, (blk_cell BK309.out 0).trans rfl, (blk_cell BK309.out 1).trans rfl, (blk_cell BK309.out 2).trans rfl, hx362_0, hx362_1⟩ (fun hHeld => ?_); refine with_tabW bazaarlaw06_NodeFinds.tab15 bazaarlaw06_NodeFinds.bits15 (fun HT_ HW_ => ?_)
                          generalize wc.drew = w107 at HO_310000 HO_310001 HO_310002 HO_334000 HO_334001 HO_334002 HO_347000 HO_347001 HO_347002 HO_359000 HO_359001 HO_359002 BK309 BK310 BK333 BK346 BK358 HB hx362_0 hx362_1 hHeld ⊢
                          refine pure_ (i := 0) (N := some 76) (v := ?_) (a' := ?_) #[true, false, false, false, false, false, false, false, false, false, false, false, false, false, false, false, false, false, false, false, false, false, false, false, false, false, false, false, false, false, false, false, false, false, false, false, false, false] rfl rfl (any_of HT_.out (by kernel_rfl)) (fun _ _ _ h => h) (Or.inl ⟨by rfl, ?_⟩) ?_ ?_
                          rotate_left
                          · intro w'
                            go_simp
                            with_reducible rfl
                          rotate_left
                          · simp only [Act.put, List.setIfInBounds_toArray, List.set_cons_zero, List.set_cons_succ, i64_w, i32_w]
                            rfl
                          refine pure_ (i := 1) (N := some 77) (v := ?_) (a' := ?_) #[true, true, false, false, false, false, false, false, false, false, false, false, false, false, false, false, false, false, false, false, false, false, false, false, false, false, false, false, false, false, false, false, false, false, false, false, false, false] rfl rfl (any_of HT_.out (by kernel_rfl)) (fun _ _ _ h => h) (Or.inl ⟨by rfl, ?_⟩) ?_ ?_
                          rotate_left
                          · intro w'
                            go_simp
                            with_reducible rfl
                          rotate_left
                          · simp only [Act.put, List.setIfInBounds_toArray, List.set_cons_zero, List.set_cons_succ, i64_w, i32_w]
                            rfl
                          refine pure_ (i := 2) (N := some 78) (v := ?_) (a' := ?_) #[true, true, true, false, false, false, false, false, false, false, false, false, false, false, false, false, false, false, false, false, false, false, false, false, false, false, false, false, false, false, false, false, false, false, false, false, false, false] rfl rfl (any_of HT_.out (by kernel_rfl)) (fun _ _ _ h => h) (Or.inl ⟨by rfl, ?_⟩) ?_ ?_
                          rotate_left
                          · intro w'
                            go_simp
                            with_reducible rfl
                          rotate_left
                          · simp only [Act.put, List.setIfInBounds_toArray, List.set_cons_zero, List.set_cons_succ, i64_w, i32_w]
                            rfl
                          refine pure_ (i := 4) (N := some 80) (v := ?_) (a' := ?_) #[true, true, true, false, true, false, false, false, false, false, false, false, false, false, false, false, false, false, false, false, false, false, false, false, false, false, false, false, false, false, false, false, false, false, false, false, false, false] rfl rfl (any_of HT_.out (by kernel_rfl)) (fun _ _ _ h => h) (Or.inl ⟨by rfl, ?_⟩) ?_ ?_
                          rotate_left
                          · intro w'
                            go_simp
                            with_reducible rfl
                          rotate_left
                          · simp only [Act.put, List.setIfInBounds_toArray, List.set_cons_zero, List.set_cons_succ, i64_w, i32_w]
                            rfl
                          refine take_ (i := 3) (N := some 79) (v := ?_) (a' := ?_) #[true, true, true, true, true, false, false, false, false, false, false, false, false, false, false, false, false, false, false, false, false, false, false, false, false, false, false, false, false, false, false, false, false, false, false, false, false, false] rfl rfl (take_ofW HT_.out HW_.out (by kernel_rfl)) (fun _ _ _ h => h) (Or.inl ⟨by rfl, ?_⟩) hHeld ?_ ?_
                          rotate_left
                          · rintro w' ⟨s0, s1, s2, s3, s4, s5, s6, s7, s8, s9, s10, s11, s12, s13, s14, s15⟩
                            go_simp
                            with_reducible rfl
                          rotate_left
                          · simp only [Act.put, List.setIfInBounds_toArray, List.set_cons_zero, List.set_cons_succ, i64_w, i32_w]
                            rfl
                          refine pure_ (i := 5) (N := some 81) (v := ?_) (a' := ?_) #[true, true, true, true, true, true, false, false, false, false, false, false, false, false, false, false, false, false, false, false, false, false, false, false, false, false, false, false, false, false, false, false, false, false, false, false, false, false] rfl rfl (any_of HT_.out (by kernel_rfl)) (fun _ _ _ h => h) (Or.inl ⟨by rfl, ?_⟩) ?_ ?_
                          rotate_left
                          · intro w'
                            go_simp
                            with_reducible rfl
                          rotate_left
                          · simp only [Act.put, List.setIfInBounds_toArray, List.set_cons_zero, List.set_cons_succ, i64_w, i32_w]
                            rfl
                          refine take_ (i := 6) (N := some 82) (v := ?_) (a' := ?_) #[true, true, true, true, true, true, true, false, false, false, false, false, false, false, false, false, false, false, false, false, false, false, false, false, false, false, false, false, false, false, false, false, false, false, false, false, false, false] rfl rfl (take_ofW HT_.out HW_.out (by kernel_rfl)) (fun _ _ _ h => h) (Or.inl ⟨by rfl, ?_⟩) hHeld ?_ ?_
                          rotate_left
                          · rintro w' ⟨s0, s1, s2, s3, s4, s5, s6, s7, s8, s9, s10, s11, s12, s13, s14, s15⟩
                            go_simp
                            with_reducible rfl
                          rotate_left
                          · simp only [Act.put, List.setIfInBounds_toArray, List.set_cons_zero, List.set_cons_succ, i64_w, i32_w]
                            rfl
                          refine take_ (i := 7) (N := some 83) (v := ?_) (a' := ?_) #[true, true, true, true, true, true, true, true, false, false, false, false, false, false, false, false, false, false, false, false, false, false, false, false, false, false, false, false, false, false, false, false, false, false, false, false, false, false] rfl rfl (take_ofW HT_.out HW_.out (by kernel_rfl)) (fun _ _ _ h => h) (Or.inl ⟨by rfl, ?_⟩) hHeld ?_ ?_
                          rotate_left
                          · rintro w' ⟨s0, s1, s2, s3, s4, s5, s6, s7, s8, s9, s10, s11, s12, s13, s14, s15⟩
                            go_simp
                            with_reducible rfl
                          rotate_left
                          · simp only [Act.put, List.setIfInBounds_toArray, List.set_cons_zero, List.set_cons_succ, i64_w, i32_w]
                            rfl
                          refine pure_ (i := 8) (N := some 84) (v := ?_) (a' := ?_) #[true, true, true, true, true, true, true, true, true, false, false, false, false, false, false, false, false, false, false, false, false, false, false, false, false, false, false, false, false, false, false, false, false, false, false, false, false, false] rfl rfl (any_of HT_.out (by kernel_rfl)) (fun _ _ _ h => h) (Or.inl ⟨by rfl, ?_⟩) ?_ ?_
                          rotate_left
                          · intro w'
                            go_simp
                            with_reducible rfl
                          rotate_left
                          · simp only [Act.put, List.setIfInBounds_toArray, List.set_cons_zero, List.set_cons_succ, i64_w, i32_w]
                            rfl
                          refine pure_ (i := 9) (N := some 85) (v := ?_) (a' := ?_) #[true, true, true, true, true, true, true, true, true, true, false, false, false, false, false, false, false, false, false, false, false, false, false, false, false, false, false, false, false, false, false, false, false, false, false, false, false, false] rfl rfl (any_of HT_.out (by kernel_rfl)) (fun _ _ _ h => h) (Or.inl ⟨by rfl, ?_⟩) ?_ ?_
                          rotate_left
                          · intro w'
                            go_simp
                            with_reducible rfl
                          rotate_left
                          · simp only [Act.put, List.setIfInBounds_toArray, List.set_cons_zero, List.set_cons_succ, i64_w, i32_w]
                            rfl
                          refine pure_ (i := 10) (N := some 86) (v := ?_) (a' := ?_) #[true, true, true, true, true, true, true, true, true, true, true, false, false, false, false, false, false, false, false, false, false, false, false, false, false, false, false, false, false, false, false, false, false, false, false, false, false, false] rfl rfl (any_of HT_.out (by kernel_rfl)) (fun _ _ _ h => h) (Or.inl ⟨by rfl, ?_⟩) ?_ ?_
                          rotate_left
                          · intro w'
                            go_simp
                            with_reducible rfl
                          rotate_left
                          · simp only [Act.put, List.setIfInBounds_toArray, List.set_cons_zero, List.set_cons_succ, i64_w, i32_w]
                            rfl
                          refine pure_ (i := 11) (N := some 87) (v := ?_) (a' := ?_) #[true, true, true, true, true, true, true, true, true, true, true, true, false, false, false, false, false, false, false, false, false, false, false, false, false, false, false, false, false, false, false, false, false, false, false, false, false, false] rfl rfl (any_of HT_.out (by kernel_rfl)) (fun _ _ _ h => h) (Or.inl ⟨by rfl, ?_⟩) ?_ ?_
                          rotate_left
                          · intro w'
                            go_simp
                            with_reducible rfl
                          rotate_left
                          · simp only [Act.put, List.setIfInBounds_toArray, List.set_cons_zero, List.set_cons_succ, i64_w, i32_w]
                            rfl
                          refine pure_ (i := 12) (N := some 88) (v := ?_) (a' := ?_) #[true, true, true, true, true, true, true, true, true, true, true, true, true, false, false, false, false, false, false, false, false, false, false, false, false, false, false, false, false, false, false, false, false, false, false, false, false, false] rfl rfl (any_of HT_.out (by kernel_rfl)) (fun _ _ _ h => h) (Or.inl ⟨by rfl, ?_⟩) ?_ ?_
                          rotate_left
                          · intro w'
                            go_simp
                            with_reducible rfl
                          rotate_left
                          · simp only [Act.put, List.setIfInBounds_toArray, List.set_cons_zero, List.set_cons_succ, i64_w, i32_w]
                            rfl
                          refine pure_ (i := 13) (N := some 89) (v := ?_) (a' := ?_) #[true, true, true, true, true, true, true, true, true, true, true, true, true, true, false, false, false, false, false, false, false, false, false, false, false, false, false, false, false, false, false, false, false, false, false, false, false, false] rfl rfl (any_of HT_.out (by kernel_rfl)) (fun _ _ _ h => h) (Or.inl ⟨by rfl, ?_⟩) ?_ ?_
                          rotate_left
                          · intro w'
                            go_simp
                            with_reducible rfl
                          rotate_left
                          · simp only [Act.put, List.setIfInBounds_toArray, List.set_cons_zero, List.set_cons_succ, i64_w, i32_w]
                            rfl
                          refine pure_ (i := 14) (N := some 90) (v := ?_) (a' := ?_) #[true, true, true, true, true, true, true, true, true, true, true, true, true, true, true, false, false, false, false, false, false, false, false, false, false, false, false, false, false, false, false, false, false, false, false, false, false, false] rfl rfl (any_of HT_.out (by kernel_rfl)) (fun _ _ _ h => h) (Or.inl ⟨by rfl, ?_⟩) ?_ ?_
                          rotate_left
                          · intro w'
                            go_simp
                            with_reducible rfl
                          rotate_left
                          · simp only [Act.put, List.setIfInBounds_toArray, List.set_cons_zero, List.set_cons_succ, i64_w, i32_w]
                            rfl
                          refine pure_ (i := 15) (N := some 91) (v := ?_) (a' := ?_) #[true, true, true, true, true, true, true, true, true, true, true, true, true, true, true, true, false, false, false, false, false, false, false, false, false, false, false, false, false, false, false, false, false, false, false, false, false, false] rfl rfl (any_of HT_.out (by kernel_rfl)) (fun _ _ _ h => h) (Or.inl ⟨by rfl, ?_⟩) ?_ ?_
                          rotate_left
                          · intro w'
                            go_simp
                            with_reducible rfl
                          rotate_left
                          · simp only [Act.put, List.setIfInBounds_toArray, List.set_cons_zero, List.set_cons_succ, i64_w, i32_w]
                            rfl
                          refine pure_ (i := 16) (N := some 92) (v := ?_) (a' := ?_) #[true, true, true, true, true, true, true, true, true, true, true, true, true, true, true, true, true, false, false, false, false, false, false, false, false, false, false, false, false, false, false, false, false, false, false, false, false, false] rfl rfl (any_of HT_.out (by kernel_rfl)) (fun _ _ _ h => h) (Or.inl ⟨by rfl, ?_⟩) ?_ ?_
                          rotate_left
                          · intro w'
                            go_simp
                            with_reducible rfl
                          rotate_left
                          · simp only [Act.put, List.setIfInBounds_toArray, List.set_cons_zero, List.set_cons_succ, i64_w, i32_w]
                            rfl
                          refine pure_ (i := 17) (N := some 93) (v := ?_) (a' := ?_) #[true, true, true, true, true, true, true, true, true, true, true, true, true, true, true, true, true, true, false, false, false, false, false, false, false, false, false, false, false, false, false, false, false, false, false, false, false, false] rfl rfl (any_of HT_.out (by kernel_rfl)) (fun _ _ _ h => h) (Or.inl ⟨by rfl, ?_⟩) ?_ ?_
                          rotate_left
                          · intro w'
                            go_simp
                            with_reducible rfl
                          rotate_left
                          · simp only [Act.put, List.setIfInBounds_toArray, List.set_cons_zero, List.set_cons_succ, i64_w, i32_w]
                            rfl
                          refine pure_ (i := 18) (N := some 94) (v := ?_) (a' := ?_) #[true, true, true, true, true, true, true, true, true, true, true, true, true, true, true, true, true, true, true, false, false, false, false, false, false, false, false, false, false, false, false, false, false, false, false, false, false, false] rfl rfl (any_of HT_.out (by kernel_rfl)) (fun _ _ _ h => h) (Or.inl ⟨by rfl, ?_⟩) ?_ ?_
                          rotate_left
                          · intro w'
                            go_simp
                            with_reducible rfl
                          rotate_left
                          · simp only [Act.put, List.setIfInBounds_toArray, List.set_cons_zero, List.set_cons_succ, i64_w, i32_w]
                            rfl
                          refine pure_ (i := 19) (N := some 95) (v := ?_) (a' := ?_) #[true, true, true, true, true, true, true, true, true, true, true, true, true, true, true, true, true, true, true, true, false, false, false, false, false, false, false, false, false, false, false, false, false, false, false, false, false, false] rfl rfl (any_of HT_.out (by kernel_rfl)) (fun _ _ _ h => h) (Or.inl ⟨by rfl, ?_⟩) ?_ ?_
                          rotate_left
                          · intro w'
                            go_simp
                            with_reducible rfl
                          rotate_left
                          · simp only [Act.put, List.setIfInBounds_toArray, List.set_cons_zero, List.set_cons_succ, i64_w, i32_w]
                            rfl
                          refine pure_ (i := 20) (N := some 96) (v := ?_) (a' := ?_) #[true, true, true, true, true, true, true, true, true, true, true, true, true, true, true, true, true, true, true, true, true, false, false, false, false, false, false, false, false, false, false, false, false, false, false, false, false, false] rfl rfl (any_of HT_.out (by kernel_rfl)) (fun _ _ _ h => h) (Or.inl ⟨by rfl, ?_⟩) ?_ ?_
                          rotate_left
                          · intro w'
                            go_simp
                            with_reducible rfl
                          rotate_left
                          · simp only [Act.put, List.setIfInBounds_toArray, List.set_cons_zero, List.set_cons_succ, i64_w, i32_w]
                            rfl
                          refine pure_ (i := 21) (N := some 97) (v := ?_) (a' := ?_) #[true, true, true, true, true, true, true, true, true, true, true, true, true, true, true, true, true, true, true, true, true, true, false, false, false, false, false, false, false, false, false, false, false, false, false, false, false, false] rfl rfl (any_of HT_.out (by kernel_rfl)) (fun _ _ _ h => h) (Or.inl ⟨by rfl, ?_⟩) ?_ ?_
                          rotate_left
                          · intro w'
                            go_simp
                            with_reducible rfl
                          rotate_left
                          · simp only [Act.put, List.setIfInBounds_toArray, List.set_cons_zero, List.set_cons_succ, i64_w, i32_w]
                            rfl
                          refine take_ (i := 22) (N := some 98) (v := ?_) (a' := ?_) #[true, true, true, true, true, true, true, true, true, true, true, true, true, true, true, true, true, true, true, true, true, true, true, false, false, false, false, false, false, false, false, false, false, false, false, false, false, false] rfl rfl (take_ofW HT_.out HW_.out (by kernel_rfl)) (fun _ _ _ h => h) (Or.inl ⟨by rfl, ?_⟩) hHeld ?_ ?_
                          rotate_left
                          · rintro w' ⟨s0, s1, s2, s3, s4, s5, s6, s7, s8, s9, s10, s11, s12, s13, s14, s15⟩
                            go_simp
                            with_reducible rfl
                          rotate_left
                          · simp only [Act.put, List.setIfInBounds_toArray, List.set_cons_zero, List.set_cons_succ, i64_w, i32_w]
                            rfl
                          refine take_ (i := 23) (N := some 99) (v := ?_) (a' := ?_) #[true, true, true, true, true, true, true, true, true, true, true, true, true, true, true, true, true, true, true, true, true, true, true, true, false, false, false, false, false, false, false, false, false, false, false, false, false, false] rfl rfl (take_ofW HT_.out HW_.out (by kernel_rfl)) (fun _ _ _ h => h) (Or.inl ⟨by rfl, ?_⟩) hHeld ?_ ?_
                          rotate_left
                          · rintro w' ⟨s0, s1, s2, s3, s4, s5, s6, s7, s8, s9, s10, s11, s12, s13, s14, s15⟩
                            go_simp
                            with_reducible rfl
                          rotate_left
                          · simp only [Act.put, List.setIfInBounds_toArray, List.set_cons_zero, List.set_cons_succ, i64_w, i32_w]
                            rfl
                          refine one_ (i := 24) (N := some 100) #[true, true, true, true, true, true, true, true, true, true, true, true, true, true, true, true, true, true, true, true, true, true, true, true, true, false, false, false, false, false, false, false, false, false, false, false, false, false] rfl rfl (one_of HT_.out (by kernel_rfl)) (by decide) (fun K hK => ?_)
                          refine goes_ Try.func26 (by kernel_rfl) rfl #[.agg #[.slice Ao45 t335.length co45, .slice Ao50 t338.length co50, .slice Ao51 t341.length co51], .agg #[.slice Ao56 t347.length co56, .slice Ao62 t350.length co62, .slice Ao63 t353.length co63]] (by rfl) rfl rfl (by (try simp only [List.map_toArray, List.map_cons, List.map_nil]); first | done | rfl | (simp only [List.length_drop, List.length_take]; rfl)) ?_
                          with_reducible refine (bazaarref06_Same.calls kj11 _ _ t335 _ _ t338 _ _ t341 _ _ t347 _ _ t350 _ _ t353 true _ ?side1 ?side2 ?side3 ?side4 ?side5 ?side6 ?side7 ?side8 ?side9 ?side10 ?side11 ?side12 A105.out).mono ?_
                          (case side1 => repeat (first | exact (Kd.R_reads' HO_347000.out).2.2 | (with_reducible refine Kd.C_alloc ?_ _) | (with_reducible refine Kd.C_drewN ?_ _) | (with_reducible refine Kd.C_drew ?_)))
                          (case side2 => exact (Kd.R_reads' HO_347000.out).2.1)
                          (case side3 => repeat (first | exact (Kd.R_reads' HO_347001.out).2.2 | (with_reducible refine Kd.C_alloc ?_ _) | (with_reducible refine Kd.C_drewN ?_ _) | (with_reducible refine Kd.C_drew ?_)))
                          (case side4 => exact (Kd.R_reads' HO_347001.out).2.1)
                          (case side5 => repeat (first | exact (Kd.R_reads' HO_347002.out).2.2 | (with_reducible refine Kd.C_alloc ?_ _) | (with_reducible refine Kd.C_drewN ?_ _) | (with_reducible refine Kd.C_drew ?_)))
                          (case side6 => exact (Kd.R_reads' HO_347002.out).2.1)
                          (case side7 => repeat (first | exact (Kd.R_reads' HO_359000.out).2.2 | (with_reducible refine Kd.C_alloc ?_ _) | (with_reducible refine Kd.C_drewN ?_ _) | (with_reducible refine Kd.C_drew ?_)))
                          (case side8 => exact (Kd.R_reads' HO_359000.out).2.1)
                          (case side9 => repeat (first | exact (Kd.R_reads' HO_359001.out).2.2 | (with_reducible refine Kd.C_alloc ?_ _) | (with_reducible refine Kd.C_drewN ?_ _) | (with_reducible refine Kd.C_drew ?_)))
                          (case side10 => exact (Kd.R_reads' HO_359001.out).2.1)
                          (case side11 => repeat (first | exact (Kd.R_reads' HO_359002.out).2.2 | (with_reducible refine Kd.C_alloc ?_ _) | (with_reducible refine Kd.C_drewN ?_ _) | (with_reducible refine Kd.C_drew ?_)))
                          (case side12 => exact (Kd.R_reads' HO_359002.out).2.1)
                          rintro e w108 ⟨rfl, hb⟩
                          have HS14_ := (hb.cell (World.block_lt_of_cell? _ _ (hHeld.2.2.2.2.2.2.2.2.2.2.2.2.2.2.1))).trans (hHeld.2.2.2.2.2.2.2.2.2.2.2.2.2.2.1)
                          have HS15_ := (hb.cell (World.block_lt_of_cell? _ _ (hHeld.2.2.2.2.2.2.2.2.2.2.2.2.2.2.2))).trans (hHeld.2.2.2.2.2.2.2.2.2.2.2.2.2.2.2)
                          refine ⟨_, rfl, ?_⟩
                          have n0_ := Aside0.mk (Kd.R_below (by (with_reducible repeat (first | apply Kd.R_alloc | apply Kd.R_drewN | apply Kd.R_drew)); exact HO_310000.out) hb)
                          have n1_ := Aside0.mk (Kd.R_below (by (with_reducible repeat (first | apply Kd.R_alloc | apply Kd.R_drewN | apply Kd.R_drew)); exact HO_310001.out) hb)
                          have n2_ := Aside0.mk (Kd.R_below (by (with_reducible repeat (first | apply Kd.R_alloc | apply Kd.R_drewN | apply Kd.R_drew)); exact HO_310002.out) hb)
                          have n3_ := Aside0.mk (Kd.R_below (by (with_reducible repeat (first | apply Kd.R_alloc | apply Kd.R_drewN | apply Kd.R_drew)); exact HO_334000.out) hb)
                          have n4_ := Aside0.mk (Kd.R_below (by (with_reducible repeat (first | apply Kd.R_alloc | apply Kd.R_drewN | apply Kd.R_drew)); exact HO_334001.out) hb)
                          have n5_ := Aside0.mk (Kd.R_below (by (with_reducible repeat (first | apply Kd.R_alloc | apply Kd.R_drewN | apply Kd.R_drew)); exact HO_334002.out) hb)
                          have n6_ := Aside0.mk (Kd.R_below (by (with_reducible repeat (first | apply Kd.R_alloc | apply Kd.R_drewN | apply Kd.R_drew)); exact HO_347000.out) hb)
                          have n7_ := Aside0.mk (Kd.R_below (by (with_reducible repeat (first | apply Kd.R_alloc | apply Kd.R_drewN | apply Kd.R_drew)); exact HO_347001.out) hb)
                          have n8_ := Aside0.mk (Kd.R_below (by (with_reducible repeat (first | apply Kd.R_alloc | apply Kd.R_drewN | apply Kd.R_drew)); exact HO_347002.out) hb)
                          have n9_ := Aside0.mk (Kd.R_below (by (with_reducible repeat (first | apply Kd.R_alloc | apply Kd.R_drewN | apply Kd.R_drew)); exact HO_359000.out) hb)
                          have n10_ := Aside0.mk (Kd.R_below (by (with_reducible repeat (first | apply Kd.R_alloc | apply Kd.R_drewN | apply Kd.R_drew)); exact HO_359001.out) hb)
                          have n11_ := Aside0.mk (Kd.R_below (by (with_reducible repeat (first | apply Kd.R_alloc | apply Kd.R_drewN | apply Kd.R_drew)); exact HO_359002.out) hb)
                          have n12_ := Aside0.mk (blk_below (g := gb309) (o := .cells #[.slice Ao19 t312.length co19, .slice Ao21 t315.length co21, .slice Ao22 t318.length co22] 26 (0, 0)) (by (with_reducible repeat (first | refine blk_drewN ?_ _ | refine blk_drew ?_ | refine blk_alloc ?_ _)); exact BK309.out) hb)
                          have n13_ := Aside0.mk (blk_below (g := gb310) (o := .cells #[.string t321, .string t322] 39 (0, 0)) (by (with_reducible repeat (first | refine blk_drewN ?_ _ | refine blk_drew ?_ | refine blk_alloc ?_ _)); exact BK310.out) hb)
                          have n14_ := Aside0.mk (blk_below (g := gb333) (o := .cells #[.slice (some ad362) t323.length co33, .slice Ao37 t326.length co37, .slice Ao38 t329.length co38] 26 (0, 0)) (by (with_reducible repeat (first | refine blk_drewN ?_ _ | refine blk_drew ?_ | refine blk_alloc ?_ _)); exact BK333.out) hb)
                          have n15_ := Aside0.mk (blk_below (g := gb346) (o := .cells #[.slice Ao45 t335.length co45, .slice Ao50 t338.length co50, .slice Ao51 t341.length co51] 26 (0, 0)) (by (with_reducible repeat (first | refine blk_drewN ?_ _ | refine blk_drew ?_ | refine blk_alloc ?_ _)); exact BK346.out) hb)
                          have n16_ := Aside0.mk (blk_below (g := gb358) (o := .cells #[.slice Ao56 t347.length co56, .slice Ao62 t350.length co62, .slice Ao63 t353.length co63] 26 (0, 0)) (by (with_reducible repeat (first | refine blk_drewN ?_ _ | refine blk_drew ?_ | refine blk_alloc ?_ _)); exact BK358.out) hb)
                          have n17_ := Aside0.mk (below_step (by repeat (first | (with_reducible first | exact HB.out | apply below_alloc | apply pw_below_drewN | apply below_drew1 | refine below_set ?_ GE309.out | refine below_set ?_ GE310.out | refine below_set ?_ GE333.out | refine below_set ?_ GE346.out | refine below_set ?_ GE358.out) | exact HB.out)) hb)
                          clear HO_310000
                          clear HO_310001
                          clear HO_310002
                          clear HO_334000
                          clear HO_334001
                          clear HO_334002
                          clear HO_347000
                          clear HO_347001
                          clear HO_347002
                          clear HO_359000
                          clear HO_359001
                          clear HO_359002
                          clear BK309
                          clear BK310
                          clear BK333
                          clear BK346
                          clear BK358
                          clear HB
                          have HO_310000 := n0_
                          have HO_310001 := n1_
                          have HO_310002 := n2_
                          have HO_334000 := n3_
                          have HO_334001 := n4_
                          have HO_334002 := n5_
                          have HO_347000 := n6_
                          have HO_347001 := n7_
                          have HO_347002 := n8_
                          have HO_359000 := n9_
                          have HO_359001 := n10_
                          have HO_359002 := n11_
                          have BK309 := n12_
                          have BK310 := n13_
                          have BK333 := n14_
                          have BK346 := n15_
                          have BK358 := n16_
                          have HB := n17_
                          clear n0_ n1_ n2_ n3_ n4_ n5_ n6_ n7_ n8_ n9_ n10_ n11_ n12_ n13_ n14_ n15_ n16_ n17_
                          (try clear hb)
                          (try clear hb2)
                          (try clear hk)
                          (try clear hi)
                          refine hK.out _ _ ⟨(blk_cell BK333.out 0).trans rfl, (blk_cell BK333.out 1).trans rfl, (blk_cell BK333.out 2).trans rfl, (blk_cell BK310.out 0).trans rfl, (blk_cell BK310.out 1).trans rfl, (blk_cell BK346.out 0).trans rfl, (blk_cell BK346.out 1).trans rfl, (blk_cell BK346.out 2).trans rfl, (blk_cell BK358.out 0).trans rfl, (blk_cell BK358.out 1).trans rfl, (blk_cell BK358.out 2).trans rfl, (blk_cell BK309.out 0).trans rfl, (blk_cell BK309.out 1).trans rfl, (blk_cell BK309.out 2).trans rfl, HS14_, HS15_⟩ (fun hHeld => ?_)
                          clear hK K
                          refine norm_ (a' := ?_) ?_ ?_
                          rotate_left
                          · show Act.put _ (some 100) _ = _
                            simp only [Act.put, List.setIfInBounds_toArray, List.set_cons_zero, List.set_cons_succ, i64_w, i32_w]
                            rfl
                          refine pure_ (i := 25) (N := some 101) (v := ?_) (a' := ?_) #[true, true, true, true, true, true, true, true, true, true, true, true, true, true, true, true, true, true, true, true, true, true, true, true, true, true, false, false, false, false, false, false, false, false, false, false, false, false] rfl rfl (any_of HT_.out (by kernel_rfl)) (fun _ _ _ h => h) (Or.inl ⟨by rfl, ?_⟩) ?_ ?_
                          rotate_left
                          · intro w'
                            go_simp
                            with_reducible rfl
                          rotate_left
                          · simp only [Act.put, List.setIfInBounds_toArray, List.set_cons_zero, List.set_cons_succ, i64_w, i32_w]
                            rfl
                          refine pure_ (i := 26) (N := some 102) (v := ?_) (a' := ?_) #[true, true, true, true, true, true, true, true, true, true, true, true, true, true, true, true, true, true, true, true, true, true, true, true, true, true, true, false, false, false, false, false, false, false, false, false, false, false] rfl rfl (any_of HT_.out (by kernel_rfl)) (fun _ _ _ h => h) (Or.inl ⟨by rfl, ?_⟩) ?_ ?_
                          rotate_left
                          · intro w'
                            go_simp
                            with_reducible rfl
                          rotate_left
                          · simp only [Act.put, List.setIfInBounds_toArray, List.set_cons_zero, List.set_cons_succ, i64_w, i32_w]
                            rfl
                          refine pure_ (i := 27) (N := some 103) (v := ?_) (a' := ?_) #[true, true, true, true, true, true, true, true, true, true, true, true, true, true, true, true, true, true, true, true, true, true, true, true, true, true, true, true, false, false, false, false, false, false, false, false, false, false] rfl rfl (any_of HT_.out (by kernel_rfl)) (fun _ _ _ h => h) (Or.inl ⟨by rfl, ?_⟩) ?_ ?_
                          rotate_left
                          · intro w'
                            go_simp
                            with_reducible rfl
                          rotate_left
                          · simp only [Act.put, List.setIfInBounds_toArray, List.set_cons_zero, List.set_cons_succ, i64_w, i32_w]
                            rfl
                          refine pure_ (i := 30) (N := some 106) (v := ?_) (a' := ?_) #[true, true, true, true, true, true, true, true, true, true, true, true, true, true, true, true, true, true, true, true, true, true, true, true, true, true, true, true, false, false, true, false, false, false, false, false, false, false] rfl rfl (any_of HT_.out (by kernel_rfl)) (fun _ _ _ h => h) (Or.inl ⟨by rfl, ?_⟩) ?_ ?_
                          rotate_left
                          · intro w'
                            go_simp
                            with_reducible rfl
                          rotate_left
                          · simp only [Act.put, List.setIfInBounds_toArray, List.set_cons_zero, List.set_cons_succ, i64_w, i32_w]
                            rfl
                          refine pure_ (i := 33) (N := some 109) (v := ?_) (a' := ?_) #[true, true, true, true, true, true, true, true, true, true, true, true, true, true, true, true, true, true, true, true, true, true, true, true, true, true, true, true, false, false, true, false, false, true, false, false, false, false] rfl rfl (any_of HT_.out (by kernel_rfl)) (fun _ _ _ h => h) (Or.inl ⟨by rfl, ?_⟩) ?_ ?_
                          rotate_left
                          · intro w'
                            go_simp
                            with_reducible rfl
                          rotate_left
                          · simp only [Act.put, List.setIfInBounds_toArray, List.set_cons_zero, List.set_cons_succ, i64_w, i32_w]
                            rfl
                          refine take_ (i := 28) (N := some 104) (v := ?_) (a' := ?_) #[true, true, true, true, true, true, true, true, true, true, true, true, true, true, true, true, true, true, true, true, true, true, true, true, true, true, true, true, true, false, true, false, false, true, false, false, false, false] rfl rfl (take_ofW HT_.out HW_.out (by kernel_rfl)) (fun _ _ _ h => h) (Or.inl ⟨by rfl, ?_⟩) hHeld ?_ ?_
                          rotate_left
                          · rintro w' ⟨s0, s1, s2, s3, s4, s5, s6, s7, s8, s9, s10, s11, s12, s13, s14, s15⟩
                            go_simp
                            with_reducible rfl
                          rotate_left
                          · simp only [Act.put, List.setIfInBounds_toArray, List.set_cons_zero, List.set_cons_succ, i64_w, i32_w]
                            rfl
                          refine pure_ (i := 29) (N := some 105) (v := ?_) (a' := ?_) #[true, true, true, true, true, true, true, true, true, true, true, true, true, true, true, true, true, true, true, true, true, true, true, true, true, true, true, true, true, true, true, false, false, true, false, false, false, false] rfl rfl (any_of HT_.out (by kernel_rfl)) (fun _ _ _ h => h) (Or.inl ⟨by rfl, ?_⟩) ?_ ?_
                          rotate_left
                          · intro w'
                            go_simp
                            with_reducible rfl
                          rotate_left
                          · simp only [Act.put, List.setIfInBounds_toArray, List.set_cons_zero, List.set_cons_succ, i64_w, i32_w]
                            rfl
                          refine take_ (i := 31) (N := some 107) (v := ?_) (a' := ?_) #[true, true, true, true, true, true, true, true, true, true, true, true, true, true, true, true, true, true, true, true, true, true, true, true, true, true, true, true, true, true, true, true, false, true, false, false, false, false] rfl rfl (take_ofW HT_.out HW_.out (by kernel_rfl)) (fun _ _ _ h => h) (Or.inl ⟨by rfl, ?_⟩) hHeld ?_ ?_
                          rotate_left
                          · rintro w' ⟨s0, s1, s2, s3, s4, s5, s6, s7, s8, s9, s10, s11, s12, s13, s14, s15⟩
                            go_simp
                            with_reducible rfl
                          rotate_left
                          · simp only [Act.put, List.setIfInBounds_toArray, List.set_cons_zero, List.set_cons_succ, i64_w, i32_w]
                            rfl
                          refine pure_ (i := 32) (N := some 108) (v := ?_) (a' := ?_) #[true, true, true, true, true, true, true, true, true, true, true, true, true, true, true, true, true, true, true, true, true, true, true, true, true, true, true, true, true, true, true, true, true, true, false, false, false, false] rfl rfl (any_of HT_.out (by kernel_rfl)) (fun _ _ _ h => h) (Or.inl ⟨by rfl, ?_⟩) ?_ ?_
                          rotate_left
                          · intro w'
                            go_simp
                            with_reducible rfl
                          rotate_left
                          · simp only [Act.put, List.setIfInBounds_toArray, List.set_cons_zero, List.set_cons_succ, i64_w, i32_w]
                            rfl
                          refine pure_ (i := 34) (N := some 110) (v := ?_) (a' := ?_) #[true, true, true, true, true, true, true, true, true, true, true, true, true, true, true, true, true, true, true, true, true, true, true, true, true, true, true, true, true, true, true, true, true, true, true, false, false, false] rfl rfl (any_of HT_.out (by kernel_rfl)) (fun _ _ _ h => h) (Or.inl ⟨by rfl, ?_⟩) ?_ ?_
                          rotate_left
                          · intro w'
                            go_simp
                            with_reducible rfl
                          rotate_left
                          · simp only [Act.put, List.setIfInBounds_toArray, List.set_cons_zero, List.set_cons_succ, i64_w, i32_w]
                            rfl
                          refine pure_ (i := 35) (N := some 111) (v := ?_) (a' := ?_) #[true, true, true, true, true, true, true, true, true, true, true, true, true, true, true, true, true, true, true, true, true, true, true, true, true, true, true, true, true, true, true, true, true, true, true, true, false, false] rfl rfl (any_of HT_.out (by kernel_rfl)) (fun _ _ _ h => h) (Or.inl ⟨by rfl, ?_⟩) ?_ ?_
                          rotate_left
                          · intro w'
                            go_simp
                            with_reducible rfl
                          rotate_left
                          · simp only [Act.put, List.setIfInBounds_toArray, List.set_cons_zero, List.set_cons_succ, i64_w, i32_w]
                            rfl
                          refine pure_ (i := 36) (N := some 112) (v := ?_) (a' := ?_) #[true, true, true, true, true, true, true, true, true, true, true, true, true, true, true, true, true, true, true, true, true, true, true, true, true, true, true, true, true, true, true, true, true, true, true, true, true, false] rfl rfl (any_of HT_.out (by kernel_rfl)) (fun _ _ _ h => h) (Or.inl ⟨by rfl, ?_⟩) ?_ ?_
                          rotate_left
                          · intro w'
                            go_simp
                            with_reducible rfl
                          rotate_left
                          · simp only [Act.put, List.setIfInBounds_toArray, List.set_cons_zero, List.set_cons_succ, i64_w, i32_w]
                            rfl
                          refine pure_ (i := 37) (N := some 4) (v := ?_) (a' := ?_) #[true, true, true, true, true, true, true, true, true, true, true, true, true, true, true, true, true, true, true, true, true, true, true, true, true, true, true, true, true, true, true, true, true, true, true, true, true, true] rfl rfl (any_of HT_.out (by kernel_rfl)) (fun _ _ _ h => h) (Or.inl ⟨by rfl, ?_⟩) ?_ ?_
                          rotate_left
                          · intro w'
                            go_simp
                            with_reducible rfl
                          rotate_left
                          · simp only [Act.put, List.setIfInBounds_toArray, List.set_cons_zero, List.set_cons_succ, i64_w, i32_w]
                            rfl
                          refine done_ (done_of HT_.out (by kernel_rfl)) ?_
                          try go_wp2
                          go_ret
                          exact ⟨by first | rfl | (simp [errW_none, errW_some] <;> rfl) | (simp [errW_none, errW_some]; exact ⟨rfl, rfl, rfl⟩) | (simp [*, errW_none, errW_some] <;> rfl), by repeat (first | (with_reducible first | exact HB.out | apply below_alloc | apply pw_below_drewN | apply below_drew1 | refine below_set ?_ GE309.out | refine below_set ?_ GE310.out | refine below_set ?_ GE333.out | refine below_set ?_ GE346.out | refine below_set ?_ GE358.out) | exact HB.out)⟩
                        · replace c106 := Bool.eq_false_iff.mpr c106
                          subst c106
                          have H1 : (some false) = some r := by rw [if_neg (show ¬ (false = true) by decide)] at H; exact H
                          clear H
                          have H := H1
                          clear H1
                          obtain rfl := Option.some.inj H
                          cases hr_
                      · rw [if_neg c104] at H
                        have c104b0 : (t357 == 0) = false := beq_eq_false_iff_ne.mpr c104
                        have c104b1 : (t357 != 0) = true := bne_iff_ne.mpr c104
                        obtain rfl := Option.some.inj H
                        cases hr_
                    · rw [if_neg c103] at H
                      have c103b0 : (t345 == 0) = false := beq_eq_false_iff_ne.mpr c103
                      have c103b1 : (t345 != 0) = true := bne_iff_ne.mpr c103
                      obtain rfl := Option.some.inj H
                      cases hr_
                  · replace c102 := Bool.eq_false_iff.mpr c102
                    subst c102
                    have H1 : (some false) = some r := by rw [if_neg (show ¬ (false = true) by decide)] at H; exact H
                    clear H
                    have H := H1
                    clear H1
                    obtain rfl := Option.some.inj H
                    cases hr_
                · rw [if_neg c101] at H
                  have c101b0 : ((((rd_T39 t323 t334).f0).toList) == t321.toList && ((((rd_T39 t323 t334).f1).toList) == t322.toList)) = false := by simpa using c101
                  (try (have c101b1 : decide ((((rd_T39 t323 t334).f0).toList) = t321.toList && ((((rd_T39 t323 t334).f1).toList) == t322.toList)) = false := by simpa using c101))
                  (try (have c101b2 : ((((rd_T39 t323 t334).f0).toList) == t321.toList && ((((rd_T39 t323 t334).f1).toList) == t322.toList)) = false := by simpa using c101))
                  (try (have c101b3 : ¬ ((((rd_T39 t323 t334).f0).toList) = t321.toList && ((((rd_T39 t323 t334).f1).toList) == t322.toList)) := by simpa using c101))
                  clear c101
                  obtain rfl := Option.some.inj H
                  cases hr_
              · rw [if_neg c100] at H
                exact absurd H (by simp)
            · rw [if_neg c99] at H
              exact absurd H (by simp)
          · replace c98 := Bool.eq_false_iff.mpr c98
            subst c98
            have H1 : (some false) = some r := by rw [if_neg (show ¬ (false = true) by decide)] at H; exact H
            clear H
            have H := H1
            clear H1
            obtain rfl := Option.some.inj H
            cases hr_
end Go.Proofs.Ytejempihaknplaa.G
