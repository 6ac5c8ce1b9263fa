-- Written by this session's program genprint.py (the kit's print.py with contracts of this seat's own among the callees). Not trusted: Lean checks it.
import Derived.Test.YtejempihaknplaaGX
import Derived.Test.YtejempihaknplaaNdW
import Derived.Test.YtejempihaknplaaGA
import Derived.Test.YtejempihaknplaaGL
import Derived.Test.YtejempihaknplaaGf23
import Derived.Test.YtejempihaknplaaGf25
import Derived.Test.YtejempihaknplaaGf26
import Derived.Test.YtejempihaknplaaHDelete
import Derived.Test.YtejempihaknplaaHPut
namespace Go.Proofs.Ytejempihaknplaa.G
open Go.RowKit Go.Proofs.YtejempihaknplaaW.PrintWords Go.Proofs.YtejempihaknplaaW.PrintLast Go.Proofs.YtejempihaknplaaW.PrintMore
attribute [local go_sem] max2_int min2_int max_two min_two max_three min_three max_four min_four   -- for this text's walks alone
set_option linter.unusedVariables false
set_option linter.unusedSimpArgs false

/-! ### bazaarlaw06_NodePuts: function 6 -/
def bazaarlaw06_NodePuts.f (k : Nat) (l0_0 : List (S39)) (l0_1 : List ByteArray) (l0_2 : List Int) (a1_0 : ByteArray) (a1_1 : ByteArray) (a2 : ByteArray) : Option (Bool) := (bazaarlaw06_shown.f).bind fun t407 => ((bazaarlaw06_cut.f k l0_0 l0_1 l0_2).bind fun bt408 => ((bazaarlaw06_text.f a1_0).bind fun t417 => ((bazaarlaw06_text.f a1_1).bind fun t418 => ((node_Put.f bt408.1 bt408.2.1 bt408.2.2 t417 t418).bind fun bt419 => ((bazaarref06_Put.f k bt408.1 bt408.2.1 bt408.2.2 t417 t418).bind fun bt430 => ((bazaarlaw06_text.f a2).bind fun t441 => ((node_Delete.f bt408.1 bt408.2.1 bt408.2.2 t441).bind fun bt442 => ((bazaarlaw06_text.f a2).bind fun t454 => ((bazaarref06_Delete.f k bt408.1 bt408.2.1 bt408.2.2 t454).bind fun bt455 => (if t407 = true then ((bazaarref06_Same.f k bt419.1 bt419.2.1 bt419.2.2.1 bt430.1 bt430.2.1 bt430.2.2.1).bind fun t467 => (if t467 = true then (if bt419.2.2.2 = bt430.2.2.2 then ((bazaarref06_Same.f k bt442.1 bt442.2.1 bt442.2.2.1 bt455.1 bt455.2.1 bt455.2.2.1).bind fun t468 => (if t468 = true then (if (bt442.2.2.2.1 == bt455.2.2.2.1) = true then (some (bt442.2.2.2.2 == bt455.2.2.2.2)) else (some false)) else (some false))) else (some false)) else (some false))) else (some false)))))))))))
theorem bazaarlaw06_NodePuts.mono : ∀ a0 a1 a2 a3 a4 a5 k, LeO (bazaarlaw06_NodePuts.f k a0 a1 a2 a3 a4 a5) (bazaarlaw06_NodePuts.f (k + 1) a0 a1 a2 a3 a4 a5) := by
  intro a0 a1 a2 a3 a4 a5 k
  unfold bazaarlaw06_NodePuts.f
  repeat' first
      | (with_reducible exact bazaarlaw06_cut.mono _ _ _ _)
      | (with_reducible exact bazaarref06_Delete.mono _ _ _ _ _)
      | (with_reducible exact bazaarref06_Put.mono _ _ _ _ _ _)
      | (with_reducible exact bazaarref06_Same.mono _ _ _ _ _ _ _)
      | (with_reducible exact LeO.refl _)
      | (with_reducible exact LeO.none _)
      | (with_reducible refine LeO.ite ?_ ?_)
      | (with_reducible refine LeO.bind ?_ (fun _ => ?_))
      | exact bazaarlaw06_cut.mono _ _ _ _
      | exact bazaarref06_Delete.mono _ _ _ _ _
      | exact bazaarref06_Put.mono _ _ _ _ _ _
      | exact bazaarref06_Same.mono _ _ _ _ _ _ _
      | exact LeO.none _
      | refine LeO.ite ?_ ?_
      | refine LeO.bind ?_ (fun _ => ?_)
def bazaarlaw06_NodePuts.T3 : Bool × List (List Nat × List Nat) := (true, [([], []), ([0], [0]), ([1], [1]), ([], []), ([3], [3]), ([4, 2], [4]), ([2, 5], [2, 5]), ([6, 5, 0, 1, 2, 3, 4, 5, 6], [6])])
def bazaarlaw06_NodePuts.B3 : List Nat := [0, 1, 3, 0, 8, 31, 63, 127]
theorem bazaarlaw06_NodePuts.tab3 : rtab .any (opsOf Try.f6 3) = bazaarlaw06_NodePuts.T3 := by kernel_rfl
theorem bazaarlaw06_NodePuts.bits3 : waitsOk bazaarlaw06_NodePuts.T3.2 bazaarlaw06_NodePuts.B3 = true := by kernel_rfl
def bazaarlaw06_NodePuts.T6 : Bool × List (List Nat × List Nat) := (true, [([], []), ([], []), ([1], [1]), ([0, 2, 2], [0, 2]), ([3], [3]), ([4], [4]), ([4], [4]), ([4], [4]), ([], []), ([8, 5, 3, 0, 1, 2, 3, 4, 5, 8], [5, 8]), ([6, 9, 0, 1, 2, 3, 4, 5, 6, 8, 9], [6]), ([7, 10, 0, 1, 2, 3, 4, 5, 6, 7, 8, 9, 10], [7])])
def bazaarlaw06_NodePuts.B6 : List Nat := [0, 0, 2, 7, 15, 31, 31, 31, 0, 319, 895, 2047]
theorem bazaarlaw06_NodePuts.tab6 : rtab .any (opsOf Try.f6 6) = bazaarlaw06_NodePuts.T6 := by kernel_rfl
theorem bazaarlaw06_NodePuts.bits6 : waitsOk bazaarlaw06_NodePuts.T6.2 bazaarlaw06_NodePuts.B6 = true := by kernel_rfl
def bazaarlaw06_NodePuts.T7 : Bool × List (List Nat × List Nat) := (true, [([], []), ([], []), ([1], [1]), ([0, 2, 2], [0, 2]), ([3], [3]), ([4], [4]), ([4], [4]), ([4], [4]), ([], []), ([8, 5, 3, 0, 1, 2, 3, 4, 5, 8], [5, 8]), ([6, 9, 0, 1, 2, 3, 4, 5, 6, 8, 9], [6]), ([7, 10, 0, 1, 2, 3, 4, 5, 6, 7, 8, 9, 10], [7])])
def bazaarlaw06_NodePuts.B7 : List Nat := [0, 0, 2, 7, 15, 31, 31, 31, 0, 319, 895, 2047]
theorem bazaarlaw06_NodePuts.tab7 : rtab .any (opsOf Try.f6 7) = bazaarlaw06_NodePuts.T7 := by kernel_rfl
theorem bazaarlaw06_NodePuts.bits7 : waitsOk bazaarlaw06_NodePuts.T7.2 bazaarlaw06_NodePuts.B7 = true := by kernel_rfl
set_option maxHeartbeats 8000000 in
set_option maxRecDepth 100000 in
theorem bazaarlaw06_NodePuts.calls (k : Nat) (A0_0 : Option Addr) (c0_0 : Nat) (l0_0 : List (S39)) (A0_1 : Option Addr) (c0_1 : Nat) (l0_1 : List ByteArray) (A0_2 : Option Addr) (c0_2 : Nat) (l0_2 : List Int) (a1_0 : ByteArray) (a1_1 : ByteArray) (a2 : ByteArray) (r : Bool) (w : World) (hr0_0 : Kd.C k39 w A0_0 l0_0.length l0_0) (hc0_0 : l0_0.length ≤ c0_0) (hr0_1 : Kd.C Kd.string w A0_1 l0_1.length l0_1) (hc0_1 : l0_1.length ≤ c0_1) (hr0_2 : Kd.C (Kd.int .u32) w A0_2 l0_2.length l0_2) (hc0_2 : l0_2.length ≤ c0_2) (h : bazaarlaw06_NodePuts.f k l0_0 l0_1 l0_2 a1_0 a1_1 a2 = some r) (hr_ : r = true) :
    Calls Try.prog 6 #[.agg #[.slice A0_0 l0_0.length c0_0, .slice A0_1 l0_1.length c0_1, .slice A0_2 l0_2.length c0_2], .agg #[.string a1_0, .string a1_1], .string a2] w fun e w' => e = .returned (.bool r) ∧ Below w.heap.size w w' := by
  have hu26 := Try.underlying26
  have hu39 := Try.underlying39
  have HR0_0 := Aside0.mk hr0_0
  have HC0_0 := Aside0.mk hc0_0
  clear hr0_0 hc0_0
  have HR0_1 := Aside0.mk hr0_1
  have HC0_1 := Aside0.mk hc0_1
  clear hr0_1 hc0_1
  have HR0_2 := Aside0.mk hr0_2
  have HC0_2 := Aside0.mk hc0_2
  clear hr0_2 hc0_2
  have HB := Aside0.mk (Below.refl w.heap.size w)
  have H : ((bazaarlaw06_shown.f).bind fun t407 => ((bazaarlaw06_cut.f k l0_0 l0_1 l0_2).bind fun bt408 => ((bazaarlaw06_text.f a1_0).bind fun t417 => ((bazaarlaw06_text.f a1_1).bind fun t418 => ((node_Put.f bt408.1 bt408.2.1 bt408.2.2 t417 t418).bind fun bt419 => ((bazaarref06_Put.f k bt408.1 bt408.2.1 bt408.2.2 t417 t418).bind fun bt430 => ((bazaarlaw06_text.f a2).bind fun t441 => ((node_Delete.f bt408.1 bt408.2.1 bt408.2.2 t441).bind fun bt442 => ((bazaarlaw06_text.f a2).bind fun t454 => ((bazaarref06_Delete.f k bt408.1 bt408.2.1 bt408.2.2 t454).bind fun bt455 => (if t407 = true then ((bazaarref06_Same.f k bt419.1 bt419.2.1 bt419.2.2.1 bt430.1 bt430.2.1 bt430.2.2.1).bind fun t467 => (if t467 = true then (if bt419.2.2.2 = bt430.2.2.2 then ((bazaarref06_Same.f k bt442.1 bt442.2.1 bt442.2.2.1 bt455.1 bt455.2.1 bt455.2.2.1).bind fun t468 => (if t468 = true then (if (bt442.2.2.2.1 == bt455.2.2.2.1) = true then (some (bt442.2.2.2.2 == bt455.2.2.2.2)) else (some false)) else (some false))) else (some false)) else (some false))) else (some false)))))))))))) = some r := h
  clear h
  replace H := Option.bind_eq_some_iff.mp H
  obtain ⟨t407, A40, H⟩ := H
  replace H : ((bazaarlaw06_cut.f k l0_0 l0_1 l0_2).bind fun bt408 => ((bazaarlaw06_text.f a1_0).bind fun t417 => ((bazaarlaw06_text.f a1_1).bind fun t418 => ((node_Put.f bt408.1 bt408.2.1 bt408.2.2 t417 t418).bind fun bt419 => ((bazaarref06_Put.f k bt408.1 bt408.2.1 bt408.2.2 t417 t418).bind fun bt430 => ((bazaarlaw06_text.f a2).bind fun t441 => ((node_Delete.f bt408.1 bt408.2.1 bt408.2.2 t441).bind fun bt442 => ((bazaarlaw06_text.f a2).bind fun t454 => ((bazaarref06_Delete.f k bt408.1 bt408.2.1 bt408.2.2 t454).bind fun bt455 => (if t407 = true then ((bazaarref06_Same.f k bt419.1 bt419.2.1 bt419.2.2.1 bt430.1 bt430.2.1 bt430.2.2.1).bind fun t467 => (if t467 = true then (if bt419.2.2.2 = bt430.2.2.2 then ((bazaarref06_Same.f k bt442.1 bt442.2.1 bt442.2.2.1 bt455.1 bt455.2.1 bt455.2.2.1).bind fun t468 => (if t468 = true then (if (bt442.2.2.2.1 == bt455.2.2.2.1) = true then (some (bt442.2.2.2.2 == bt455.2.2.2.2)) else (some false)) else (some false))) else (some false)) else (some false))) else (some false))))))))))) = some r := H
  have A4 := Aside0.mk A40
  clear A40
  replace H := Option.bind_eq_some_iff.mp H
  obtain ⟨⟨t408, t411, t414⟩, A50, H⟩ := H
  replace H : ((bazaarlaw06_text.f a1_0).bind fun t417 => ((bazaarlaw06_text.f a1_1).bind fun t418 => ((node_Put.f t408 t411 t414 t417 t418).bind fun bt419 => ((bazaarref06_Put.f k t408 t411 t414 t417 t418).bind fun bt430 => ((bazaarlaw06_text.f a2).bind fun t441 => ((node_Delete.f t408 t411 t414 t441).bind fun bt442 => ((bazaarlaw06_text.f a2).bind fun t454 => ((bazaarref06_Delete.f k t408 t411 t414 t454).bind fun bt455 => (if t407 = true then ((bazaarref06_Same.f k bt419.1 bt419.2.1 bt419.2.2.1 bt430.1 bt430.2.1 bt430.2.2.1).bind fun t467 => (if t467 = true then (if bt419.2.2.2 = bt430.2.2.2 then ((bazaarref06_Same.f k bt442.1 bt442.2.1 bt442.2.2.1 bt455.1 bt455.2.1 bt455.2.2.1).bind fun t468 => (if t468 = true then (if (bt442.2.2.2.1 == bt455.2.2.2.1) = true then (some (bt442.2.2.2.2 == bt455.2.2.2.2)) else (some false)) else (some false))) else (some false)) else (some false))) else (some false)))))))))) = some r := H
  have A5 := Aside0.mk A50
  clear A50
  replace H := Option.bind_eq_some_iff.mp H
  obtain ⟨t417, A60, H⟩ := H
  replace H : ((bazaarlaw06_text.f a1_1).bind fun t418 => ((node_Put.f t408 t411 t414 t417 t418).bind fun bt419 => ((bazaarref06_Put.f k t408 t411 t414 t417 t418).bind fun bt430 => ((bazaarlaw06_text.f a2).bind fun t441 => ((node_Delete.f t408 t411 t414 t441).bind fun bt442 => ((bazaarlaw06_text.f a2).bind fun t454 => ((bazaarref06_Delete.f k t408 t411 t414 t454).bind fun bt455 => (if t407 = true then ((bazaarref06_Same.f k bt419.1 bt419.2.1 bt419.2.2.1 bt430.1 bt430.2.1 bt430.2.2.1).bind fun t467 => (if t467 = true then (if bt419.2.2.2 = bt430.2.2.2 then ((bazaarref06_Same.f k bt442.1 bt442.2.1 bt442.2.2.1 bt455.1 bt455.2.1 bt455.2.2.1).bind fun t468 => (if t468 = true then (if (bt442.2.2.2.1 == bt455.2.2.2.1) = true then (some (bt442.2.2.2.2 == bt455.2.2.2.2)) else (some false)) else (some false))) else (some false)) else (some false))) else (some false))))))))) = some r := H
  have A6 := Aside0.mk A60
  clear A60
  replace H := Option.bind_eq_some_iff.mp H
  obtain ⟨t418, A70, H⟩ := H
  replace H : ((node_Put.f t408 t411 t414 t417 t418).bind fun bt419 => ((bazaarref06_Put.f k t408 t411 t414 t417 t418).bind fun bt430 => ((bazaarlaw06_text.f a2).bind fun t441 => ((node_Delete.f t408 t411 t414 t441).bind fun bt442 => ((bazaarlaw06_text.f a2).bind fun t454 => ((bazaarref06_Delete.f k t408 t411 t414 t454).bind fun bt455 => (if t407 = true then ((bazaarref06_Same.f k bt419.1 bt419.2.1 bt419.2.2.1 bt430.1 bt430.2.1 bt430.2.2.1).bind fun t467 => (if t467 = true then (if bt419.2.2.2 = bt430.2.2.2 then ((bazaarref06_Same.f k bt442.1 bt442.2.1 bt442.2.2.1 bt455.1 bt455.2.1 bt455.2.2.1).bind fun t468 => (if t468 = true then (if (bt442.2.2.2.1 == bt455.2.2.2.1) = true then (some (bt442.2.2.2.2 == bt455.2.2.2.2)) else (some false)) else (some false))) else (some false)) else (some false))) else (some false)))))))) = some r := H
  have A7 := Aside0.mk A70
  clear A70
  replace H := Option.bind_eq_some_iff.mp H
  obtain ⟨⟨t419, t422, t425, t428⟩, A80, H⟩ := H
  replace H : ((bazaarref06_Put.f k t408 t411 t414 t417 t418).bind fun bt430 => ((bazaarlaw06_text.f a2).bind fun t441 => ((node_Delete.f t408 t411 t414 t441).bind fun bt442 => ((bazaarlaw06_text.f a2).bind fun t454 => ((bazaarref06_Delete.f k t408 t411 t414 t454).bind fun bt455 => (if t407 = true then ((bazaarref06_Same.f k t419 t422 t425 bt430.1 bt430.2.1 bt430.2.2.1).bind fun t467 => (if t467 = true then (if t428 = bt430.2.2.2 then ((bazaarref06_Same.f k bt442.1 bt442.2.1 bt442.2.2.1 bt455.1 bt455.2.1 bt455.2.2.1).bind fun t468 => (if t468 = true then (if (bt442.2.2.2.1 == bt455.2.2.2.1) = true then (some (bt442.2.2.2.2 == bt455.2.2.2.2)) else (some false)) else (some false))) else (some false)) else (some false))) else (some false))))))) = some r := H
  have A8 := Aside0.mk A80
  clear A80
  replace H := Option.bind_eq_some_iff.mp H
  obtain ⟨⟨t430, t433, t436, t439⟩, A90, H⟩ := H
  replace H : ((bazaarlaw06_text.f a2).bind fun t441 => ((node_Delete.f t408 t411 t414 t441).bind fun bt442 => ((bazaarlaw06_text.f a2).bind fun t454 => ((bazaarref06_Delete.f k t408 t411 t414 t454).bind fun bt455 => (if t407 = true then ((bazaarref06_Same.f k t419 t422 t425 t430 t433 t436).bind fun t467 => (if t467 = true then (if t428 = t439 then ((bazaarref06_Same.f k bt442.1 bt442.2.1 bt442.2.2.1 bt455.1 bt455.2.1 bt455.2.2.1).bind fun t468 => (if t468 = true then (if (bt442.2.2.2.1 == bt455.2.2.2.1) = true then (some (bt442.2.2.2.2 == bt455.2.2.2.2)) else (some false)) else (some false))) else (some false)) else (some false))) else (some false)))))) = some r := H
  have A9 := Aside0.mk A90
  clear A90
  replace H := Option.bind_eq_some_iff.mp H
  obtain ⟨t441, A100, H⟩ := H
  replace H : ((node_Delete.f t408 t411 t414 t441).bind fun bt442 => ((bazaarlaw06_text.f a2).bind fun t454 => ((bazaarref06_Delete.f k t408 t411 t414 t454).bind fun bt455 => (if t407 = true then ((bazaarref06_Same.f k t419 t422 t425 t430 t433 t436).bind fun t467 => (if t467 = true then (if t428 = t439 then ((bazaarref06_Same.f k bt442.1 bt442.2.1 bt442.2.2.1 bt455.1 bt455.2.1 bt455.2.2.1).bind fun t468 => (if t468 = true then (if (bt442.2.2.2.1 == bt455.2.2.2.1) = true then (some (bt442.2.2.2.2 == bt455.2.2.2.2)) else (some false)) else (some false))) else (some false)) else (some false))) else (some false))))) = some r := H
  have A10 := Aside0.mk A100
  clear A100
  replace H := Option.bind_eq_some_iff.mp H
  obtain ⟨⟨t442, t445, t448, t451, t452⟩, A110, H⟩ := H
  replace H : ((bazaarlaw06_text.f a2).bind fun t454 => ((bazaarref06_Delete.f k t408 t411 t414 t454).bind fun bt455 => (if t407 = true then ((bazaarref06_Same.f k t419 t422 t425 t430 t433 t436).bind fun t467 => (if t467 = true then (if t428 = t439 then ((bazaarref06_Same.f k t442 t445 t448 bt455.1 bt455.2.1 bt455.2.2.1).bind fun t468 => (if t468 = true then (if (t451 == bt455.2.2.2.1) = true then (some (t452 == bt455.2.2.2.2)) else (some false)) else (some false))) else (some false)) else (some false))) else (some false)))) = some r := H
  have A11 := Aside0.mk A110
  clear A110
  replace H := Option.bind_eq_some_iff.mp H
  obtain ⟨t454, A120, H⟩ := H
  replace H : ((bazaarref06_Delete.f k t408 t411 t414 t454).bind fun bt455 => (if t407 = true then ((bazaarref06_Same.f k t419 t422 t425 t430 t433 t436).bind fun t467 => (if t467 = true then (if t428 = t439 then ((bazaarref06_Same.f k t442 t445 t448 bt455.1 bt455.2.1 bt455.2.2.1).bind fun t468 => (if t468 = true then (if (t451 == bt455.2.2.2.1) = true then (some (t452 == bt455.2.2.2.2)) else (some false)) else (some false))) else (some false)) else (some false))) else (some false))) = some r := H
  have A12 := Aside0.mk A120
  clear A120
  replace H := Option.bind_eq_some_iff.mp H
  obtain ⟨⟨t455, t458, t461, t464, t465⟩, A130, H⟩ := H
  replace H : (if t407 = true then ((bazaarref06_Same.f k t419 t422 t425 t430 t433 t436).bind fun t467 => (if t467 = true then (if t428 = t439 then ((bazaarref06_Same.f k t442 t445 t448 t455 t458 t461).bind fun t468 => (if t468 = true then (if (t451 == t464) = true then (some (t452 == t465)) else (some false)) else (some false))) else (some false)) else (some false))) else (some false)) = some r := H
  have A13 := Aside0.mk A130
  clear A130
  by_cases c14 : t407 = true
  rotate_left
  · replace c14 := Bool.eq_false_iff.mpr c14
    subst c14
    have H1 : (some false) = some r := by rw [if_neg (show ¬ (false = true) by decide)] at H; exact H
    clear H
    have H := H1
    clear H1
    obtain rfl := Option.some.inj H
    cases hr_
  subst c14
  have H1 : ((bazaarref06_Same.f k t419 t422 t425 t430 t433 t436).bind fun t467 => (if t467 = true then (if t428 = t439 then ((bazaarref06_Same.f k t442 t445 t448 t455 t458 t461).bind fun t468 => (if t468 = true then (if (t451 == t464) = true then (some (t452 == t465)) else (some false)) else (some false))) else (some false)) else (some false))) = some r := by rw [if_pos rfl] at H; exact H
  clear H
  have H := H1
  clear H1
  replace H := Option.bind_eq_some_iff.mp H
  obtain ⟨t467, A150, H⟩ := H
  replace H : (if t467 = true then (if t428 = t439 then ((bazaarref06_Same.f k t442 t445 t448 t455 t458 t461).bind fun t468 => (if t468 = true then (if (t451 == t464) = true then (some (t452 == t465)) else (some false)) else (some false))) else (some false)) else (some false)) = some r := H
  have A15 := Aside0.mk A150
  clear A150
  by_cases c16 : t467 = true
  rotate_left
  · replace c16 := Bool.eq_false_iff.mpr c16
    subst c16
    have H1 : (some false) = some r := by rw [if_neg (show ¬ (false = true) by decide)] at H; exact H
    clear H
    have H := H1
    clear H1
    obtain rfl := Option.some.inj H
    cases hr_
  subst c16
  have H1 : (if t428 = t439 then ((bazaarref06_Same.f k t442 t445 t448 t455 t458 t461).bind fun t468 => (if t468 = true then (if (t451 == t464) = true then (some (t452 == t465)) else (some false)) else (some false))) else (some false)) = some r := by rw [if_pos rfl] at H; exact H
  clear H
  have H := H1
  clear H1
  by_cases c17 : t428 = t439
  rotate_left
  · rw [if_neg c17] at H
    have c17b0 : (t428 == t439) = false := beq_eq_false_iff_ne.mpr c17
    have c17b1 : (t428 != t439) = true := bne_iff_ne.mpr c17
    obtain rfl := Option.some.inj H
    cases hr_
  rw [if_pos c17] at H
  have c17b0 : (t428 == t439) = true := beq_iff_eq.mpr c17
  have c17b1 : (t428 != t439) = false := bne_eq_false_iff_eq.mpr c17
  clear c17
  replace H := Option.bind_eq_some_iff.mp H
  obtain ⟨t468, A180, H⟩ := H
  replace H : (if t468 = true then (if (t451 == t464) = true then (some (t452 == t465)) else (some false)) else (some false)) = some r := H
  have A18 := Aside0.mk A180
  clear A180
  by_cases c19 : t468 = true
  rotate_left
  · replace c19 := Bool.eq_false_iff.mpr c19
    subst c19
    have H1 : (some false) = some r := by rw [if_neg (show ¬ (false = true) by decide)] at H; exact H
    clear H
    have H := H1
    clear H1
    obtain rfl := Option.some.inj H
    cases hr_
  subst c19
  have H1 : (if (t451 == t464) = true then (some (t452 == t465)) else (some false)) = some r := by rw [if_pos rfl] at H; exact H
  clear H
  have H := H1
  clear H1
  by_cases c20 : (t451 == t464) = true
  rotate_left
  · rw [if_neg c20] at H
    have c20b0 : (t451 == t464) = false := by simpa using c20
    (try (have c20b1 : decide (t451 = t464) = false := by simpa using c20))
    (try (have c20b2 : (t451 == t464) = false := by simpa using c20))
    (try (have c20b3 : ¬ (t451 = t464) := by simpa using c20))
    clear c20
    obtain rfl := Option.some.inj H
    cases hr_
  rw [if_pos c20] at H
  have c20b0 : (t451 == t464) = true := c20
  (try (have c20b1 : decide (t451 = t464) = true := by simpa using c20))
  (try (have c20b2 : (t451 == t464) = true := by simpa using c20))
  clear c20
  obtain rfl := Option.some.inj H
  go_enter Try.func6, Try.ntmps6
  try go_wp2_with (first | ((with_reducible refine gate_dst (N := 3) rfl ?_); refine box_event ?hg (N := 3) ?hd (cs := #[.slice A0_0 l0_0.length c0_0, .slice A0_1 l0_1.length c0_1, .slice A0_2 l0_2.length c0_2]) (t := 26) ?hr ?_; (case hd => rfl); (case hg => rfl); (case hr => first | (go_simp; done) | (go_simp; rfl)); intro gb405 hg w21 hbox hb; have BK405 := Aside0.mk (hbox); have GW405 := Aside0.mk ((by rw [hg]; exact (below_size (L_ HB.out)) : w.heap.size ≤ gb405)); have GE405 := Aside0.mk ((by rw [hg]; exact (below_size (L_ HB.out)) : w.heap.size ≤ gb405)); replace HB := Aside0.mk (below_step (L_ HB.out) hb); clear hb hbox hg) | ((with_reducible refine gate_dst (N := 4) rfl ?_); refine box_event ?hg (N := 4) ?hd (cs := #[.string a1_0, .string a1_1]) (t := 39) ?hr ?_; (case hd => rfl); (case hg => rfl); (case hr => first | (go_simp; done) | (go_simp; rfl)); intro gb406 hg w22 hbox hb; have BK406 := Aside0.mk (hbox); have GW406 := Aside0.mk ((by rw [hg]; exact (below_size (L_ HB.out)) : w.heap.size ≤ gb406)); have GE406 := Aside0.mk ((by rw [hg]; exact (below_size (L_ HB.out)) : w.heap.size ≤ gb406)); have NB405_406 := Aside0.mk ((by rw [hg]; exact Nat.ne_of_lt (blk_lt (g := gb405) (o := .cells #[.slice A0_0 l0_0.length c0_0, .slice A0_1 l0_1.length c0_1, .slice A0_2 l0_2.length c0_2] 26 (0, 0)) (B_ BK405.out)) : gb405 ≠ gb406)); have NB406_405 := Aside0.mk ((by rw [hg]; exact Nat.ne_of_gt (blk_lt (g := gb405) (o := .cells #[.slice A0_0 l0_0.length c0_0, .slice A0_1 l0_1.length c0_1, .slice A0_2 l0_2.length c0_2] 26 (0, 0)) (B_ BK405.out)) : gb406 ≠ gb405)); replace BK405 := Aside0.mk (blk_below (g := gb405) (o := .cells #[.slice A0_0 l0_0.length c0_0, .slice A0_1 l0_1.length c0_1, .slice A0_2 l0_2.length c0_2] 26 (0, 0)) (B_ BK405.out) hb); replace HB := Aside0.mk (below_step (L_ HB.out) hb); clear hb hbox hg) | ((with_reducible refine gate_callee (f := 10) rfl ?_); refine goesL_ (some 18) rfl rfl Try.func10 (by kernel_rfl) rfl #[] rfl (by (try simp only [List.map_toArray, List.map_cons, List.map_nil]); first | done | rfl | (simp only [List.length_drop, List.length_take]; rfl)) ?_; (with_reducible refine (bazaarlaw06_shown.calls  true _ A4.out).mono ?_); rintro e w23 ⟨rfl, hb⟩; refine ⟨_, rfl, ?_⟩; replace BK405 := Aside0.mk (blk_below (g := gb405) (o := .cells #[.slice A0_0 l0_0.length c0_0, .slice A0_1 l0_1.length c0_1, .slice A0_2 l0_2.length c0_2] 26 (0, 0)) (B_ BK405.out) hb); replace BK406 := Aside0.mk (blk_below (g := gb406) (o := .cells #[.string a1_0, .string a1_1] 39 (0, 0)) (B_ BK406.out) hb); replace HB := Aside0.mk (below_step (L_ HB.out) hb); (try clear hb); (try clear hb2); (try clear hk); (try clear hi); have hnb24 := NB405_406.out; have hnc24 := NB406_405.out; have hcz25_0 : w23.cell? ⟨gb405, 0, none⟩ = some (.slice A0_0 l0_0.length c0_0) := (blk_cell BK405.out 0).trans rfl; have hcz25_1 : w23.cell? ⟨gb405, 1, none⟩ = some (.slice A0_1 l0_1.length c0_1) := (blk_cell BK405.out 1).trans rfl; have hcz25_2 : w23.cell? ⟨gb405, 2, none⟩ = some (.slice A0_2 l0_2.length c0_2) := (blk_cell BK405.out 2).trans rfl; have hfz25_0 := blk_frozen BK405.out 0; have hfz25_1 := blk_frozen BK405.out 1; have hfz25_2 := blk_frozen BK405.out 2) | ((with_reducible refine gate_callee (f := 11) rfl ?_); refine goesL_ (some 20) rfl rfl Try.func11 (by kernel_rfl) rfl #[.agg #[.slice A0_0 l0_0.length c0_0, .slice A0_1 l0_1.length c0_1, .slice A0_2 l0_2.length c0_2]] rfl (by (try simp only [List.map_toArray, List.map_cons, List.map_nil]); first | done | rfl | (simp only [List.length_drop, List.length_take]; rfl)) ?_; (with_reducible refine (bazaarlaw06_cut.calls k _ _ l0_0 _ _ l0_1 _ _ l0_2 t408 t411 t414 _ ?side1 ?side2 ?side3 ?side4 ?side5 ?side6 A5.out).mono ?_); (case side1 => repeat (first | exact (Kd.C_below HR0_0.out HB.out) | (with_reducible refine Kd.C_alloc ?_ _) | (with_reducible refine Kd.C_drewN ?_ _) | (with_reducible refine Kd.C_drew ?_))); (case side2 => exact HC0_0.out); (case side3 => repeat (first | exact (Kd.C_below HR0_1.out HB.out) | (with_reducible refine Kd.C_alloc ?_ _) | (with_reducible refine Kd.C_drewN ?_ _) | (with_reducible refine Kd.C_drew ?_))); (case side4 => exact HC0_1.out); (case side5 => repeat (first | exact (Kd.C_below HR0_2.out HB.out) | (with_reducible refine Kd.C_alloc ?_ _) | (with_reducible refine Kd.C_drewN ?_ _) | (with_reducible refine Kd.C_drew ?_))); (case side6 => exact HC0_2.out); rintro e w26 ⟨v409, v412, v415, rfl, ho0, ho1, ho2, hb⟩; refine ⟨_, rfl, ?_⟩; have HO410 := Aside0.mk (Kd.R_lower (Kd.R_newB ho0 (g := gb406) (o := .cells #[.string a1_0, .string a1_1] 39 (0, 0)) (B_ BK406.out)) (below_size (L_ HB.out))); have HO413 := Aside0.mk (Kd.R_lower ho1 (below_size (L_ HB.out))); have HO416 := Aside0.mk (Kd.R_lower ho2 (below_size (L_ HB.out))); replace BK405 := Aside0.mk (blk_below (g := gb405) (o := .cells #[.slice A0_0 l0_0.length c0_0, .slice A0_1 l0_1.length c0_1, .slice A0_2 l0_2.length c0_2] 26 (0, 0)) (B_ BK405.out) hb); replace BK406 := Aside0.mk (blk_below (g := gb406) (o := .cells #[.string a1_0, .string a1_1] 39 (0, 0)) (B_ BK406.out) hb); replace HB := Aside0.mk (below_step (L_ HB.out) hb); (try clear hb); (try clear hb2); (try clear hk); (try clear hi); (try clear ho0); (try clear ho1); (try clear ho2); obtain ⟨Ao27, co27, eo27⟩ := Kd.R_slice HO410.out; subst eo27; have hcz28_0 : w26.cell? ⟨gb405, 0, none⟩ = some (.slice A0_0 l0_0.length c0_0) := (blk_cell BK405.out 0).trans rfl; have hcz28_1 : w26.cell? ⟨gb405, 1, none⟩ = some (.slice A0_1 l0_1.length c0_1) := (blk_cell BK405.out 1).trans rfl; have hcz28_2 : w26.cell? ⟨gb405, 2, none⟩ = some (.slice A0_2 l0_2.length c0_2) := (blk_cell BK405.out 2).trans rfl; have hfz28_0 := blk_frozen BK405.out 0; have hfz28_1 := blk_frozen BK405.out 1; have hfz28_2 := blk_frozen BK405.out 2; obtain ⟨Ao29, co29, eo29⟩ := Kd.R_slice HO413.out; subst eo29; obtain ⟨Ao30, co30, eo30⟩ := Kd.R_slice HO416.out; subst eo30))
  have n0_ : Aside0 (Kd.R k39 39 (((w26.setCell ⟨gb405, 0, none⟩ (.slice Ao27 t408.length co27)).setCell ⟨gb405, 1, none⟩ (.slice Ao29 t411.length co29)).setCell ⟨gb405, 2, none⟩ (.slice Ao30 t414.length co30)) w.heap.size (fun k_ => k_ ≠ gb406) (.slice Ao27 t408.length co27) t408) := ⟨by (with_reducible repeat (first | apply Kd.R_alloc | apply Kd.R_drewN | apply Kd.R_drew)); exact Kd.R_mono (Kd.R_far (p := ⟨gb405, 2, none⟩) (Kd.R_far (p := ⟨gb405, 1, none⟩) (Kd.R_far (p := ⟨gb405, 0, none⟩) (Kd.R_types HO410.out BK405.out (by decide)) (fun _ hk => hk.2) (.slice Ao27 t408.length co27)) (fun _ hk => hk.2) (.slice Ao29 t411.length co29)) (fun _ hk => hk.2) (.slice Ao30 t414.length co30)) (fun _ hk => hk.1.2)⟩
  have n1_ : Aside0 (Kd.R Kd.string 9 (((w26.setCell ⟨gb405, 0, none⟩ (.slice Ao27 t408.length co27)).setCell ⟨gb405, 1, none⟩ (.slice Ao29 t411.length co29)).setCell ⟨gb405, 2, none⟩ (.slice Ao30 t414.length co30)) w.heap.size (fun _ => True) (.slice Ao29 t411.length co29) t411) := ⟨by (with_reducible repeat (first | apply Kd.R_alloc | apply Kd.R_drewN | apply Kd.R_drew)); exact Kd.R_mono (Kd.R_far (p := ⟨gb405, 2, none⟩) (Kd.R_far (p := ⟨gb405, 1, none⟩) (Kd.R_far (p := ⟨gb405, 0, none⟩) (Kd.R_types HO413.out BK405.out (by decide)) (fun _ hk => hk.2) (.slice Ao27 t408.length co27)) (fun _ hk => hk.2) (.slice Ao29 t411.length co29)) (fun _ hk => hk.2) (.slice Ao30 t414.length co30)) (fun _ hk => trivial)⟩
  have n2_ : Aside0 (Kd.R (Kd.int .u32) 65 (((w26.setCell ⟨gb405, 0, none⟩ (.slice Ao27 t408.length co27)).setCell ⟨gb405, 1, none⟩ (.slice Ao29 t411.length co29)).setCell ⟨gb405, 2, none⟩ (.slice Ao30 t414.length co30)) w.heap.size (fun _ => True) (.slice Ao30 t414.length co30) t414) := ⟨by (with_reducible repeat (first | apply Kd.R_alloc | apply Kd.R_drewN | apply Kd.R_drew)); exact Kd.R_mono (Kd.R_far (p := ⟨gb405, 2, none⟩) (Kd.R_far (p := ⟨gb405, 1, none⟩) (Kd.R_far (p := ⟨gb405, 0, none⟩) (Kd.R_types HO416.out BK405.out (by decide)) (fun _ hk => hk.2) (.slice Ao27 t408.length co27)) (fun _ hk => hk.2) (.slice Ao29 t411.length co29)) (fun _ hk => hk.2) (.slice Ao30 t414.length co30)) (fun _ hk => trivial)⟩
  have n3_ : Aside0 ((((w26.setCell ⟨gb405, 0, none⟩ (.slice Ao27 t408.length co27)).setCell ⟨gb405, 1, none⟩ (.slice Ao29 t411.length co29)).setCell ⟨gb405, 2, none⟩ (.slice Ao30 t414.length co30)).heap[gb405]? = some (.cells #[.slice Ao27 t408.length co27, .slice Ao29 t411.length co29, .slice Ao30 t414.length co30] 26 (0, 0))) := ⟨by (with_reducible repeat (first | refine blk_drewN ?_ _ | refine blk_drew ?_ | refine blk_alloc ?_ _)); refine blk_put (cs := #[.slice Ao27 t408.length co27, .slice Ao29 t411.length co29, .slice A0_2 l0_2.length c0_2]) ?_ 2 _ rfl; (with_reducible repeat (first | refine blk_drewN ?_ _ | refine blk_drew ?_ | refine blk_alloc ?_ _)); refine blk_put (cs := #[.slice Ao27 t408.length co27, .slice A0_1 l0_1.length c0_1, .slice A0_2 l0_2.length c0_2]) ?_ 1 _ rfl; (with_reducible repeat (first | refine blk_drewN ?_ _ | refine blk_drew ?_ | refine blk_alloc ?_ _)); refine blk_put (cs := #[.slice A0_0 l0_0.length c0_0, .slice A0_1 l0_1.length c0_1, .slice A0_2 l0_2.length c0_2]) ?_ 0 _ rfl; (with_reducible repeat (first | refine blk_drewN ?_ _ | refine blk_drew ?_ | refine blk_alloc ?_ _)); exact BK405.out⟩
  have n4_ : Aside0 ((((w26.setCell ⟨gb405, 0, none⟩ (.slice Ao27 t408.length co27)).setCell ⟨gb405, 1, none⟩ (.slice Ao29 t411.length co29)).setCell ⟨gb405, 2, none⟩ (.slice Ao30 t414.length co30)).heap[gb406]? = some (.cells #[.string a1_0, .string a1_1] 39 (0, 0))) := ⟨by (with_reducible repeat (first | refine blk_drewN ?_ _ | refine blk_drew ?_ | refine blk_alloc ?_ _)); refine blk_far ?_ NB406_405.out _; (with_reducible repeat (first | refine blk_drewN ?_ _ | refine blk_drew ?_ | refine blk_alloc ?_ _)); refine blk_far ?_ NB406_405.out _; (with_reducible repeat (first | refine blk_drewN ?_ _ | refine blk_drew ?_ | refine blk_alloc ?_ _)); refine blk_far ?_ NB406_405.out _; (with_reducible repeat (first | refine blk_drewN ?_ _ | refine blk_drew ?_ | refine blk_alloc ?_ _)); exact BK406.out⟩
  have n5_ : Aside0 (Below w.heap.size w (((w26.setCell ⟨gb405, 0, none⟩ (.slice Ao27 t408.length co27)).setCell ⟨gb405, 1, none⟩ (.slice Ao29 t411.length co29)).setCell ⟨gb405, 2, none⟩ (.slice Ao30 t414.length co30))) := ⟨by repeat (first | (with_reducible first | exact HB.out | apply below_alloc | apply pw_below_drewN | apply below_drew1 | refine below_set ?_ GE405.out | refine below_set ?_ GE406.out) | exact HB.out)⟩
  (try clear HO410)
  (try clear HO413)
  (try clear HO416)
  (try clear BK405)
  (try clear BK406)
  (try clear HB)
  generalize (((w26.setCell ⟨gb405, 0, none⟩ (.slice Ao27 t408.length co27)).setCell ⟨gb405, 1, none⟩ (.slice Ao29 t411.length co29)).setCell ⟨gb405, 2, none⟩ (.slice Ao30 t414.length co30)) = w31 at n0_ n1_ n2_ n3_ n4_ n5_ ⊢
  have HO410 := n0_
  have HO413 := n1_
  have HO416 := n2_
  have BK405 := n3_
  have BK406 := n4_
  have HB := n5_
  clear n0_ n1_ n2_ n3_ n4_ n5_
  replace HO410 := Aside0.mk (Kd.R_drew HO410.out)
  replace HO413 := Aside0.mk (Kd.R_drew HO413.out)
  replace HO416 := Aside0.mk (Kd.R_drew HO416.out)
  replace BK405 := Aside0.mk (blk_drew BK405.out)
  replace BK406 := Aside0.mk (blk_drew BK406.out)
  replace HB := Aside0.mk (below_drew1 HB.out)
  refine start_ (n := 8) (S := fun w' => w'.cell? ⟨gb406, 0, none⟩ = some (.string a1_0) ∧ w'.cell? ⟨gb406, 1, none⟩ = some (.string a1_1)) (ds := [7]) #[false, false, false, false, false, false, false, false] (by kernel_rfl) rfl rfl ⟨(blk_cell BK406.out 0).trans rfl, (blk_cell BK406.out 1).trans rfl⟩ (fun hHeld => ?_); refine with_tabW bazaarlaw06_NodePuts.tab3 bazaarlaw06_NodePuts.bits3 (fun HT_ HW_ => ?_)
  generalize w31.drew = w32 at HO410 HO413 HO416 BK405 BK406 HB hHeld ⊢
  refine pure_ (i := 0) (N := some 21) (v := ?_) (a' := ?_) #[true, false, false, false, false, false, false, false] rfl rfl (any_of HT_.out (by kernel_rfl)) (fun _ _ _ h => h) (Or.inl ⟨by rfl, ?_⟩) ?_ ?_
  rotate_left
  · intro w'
    go_simp
    with_reducible rfl
  rotate_left
  · simp only [Act.put, List.setIfInBounds_toArray, List.set_cons_zero, List.set_cons_succ, i64_w, i32_w]
    rfl
  refine pure_ (i := 3) (N := some 24) (v := ?_) (a' := ?_) #[true, false, false, true, false, false, false, false] rfl rfl (any_of HT_.out (by kernel_rfl)) (fun _ _ _ h => h) (Or.inl ⟨by rfl, ?_⟩) ?_ ?_
  rotate_left
  · intro w'
    go_simp
    with_reducible rfl
  rotate_left
  · simp only [Act.put, List.setIfInBounds_toArray, List.set_cons_zero, List.set_cons_succ, i64_w, i32_w]
    rfl
  refine take_ (i := 1) (N := some 22) (v := ?_) (a' := ?_) #[true, true, false, true, false, false, false, false] rfl rfl (take_ofW HT_.out HW_.out (by kernel_rfl)) (fun _ _ _ h => h) (Or.inl ⟨by rfl, ?_⟩) hHeld ?_ ?_
  rotate_left
  · rintro w' ⟨s0, s1⟩
    go_simp
    with_reducible rfl
  rotate_left
  · simp only [Act.put, List.setIfInBounds_toArray, List.set_cons_zero, List.set_cons_succ, i64_w, i32_w]
    rfl
  refine take_ (i := 4) (N := some 25) (v := ?_) (a' := ?_) #[true, true, false, true, true, false, false, false] rfl rfl (take_ofW HT_.out HW_.out (by kernel_rfl)) (fun _ _ _ h => h) (Or.inl ⟨by rfl, ?_⟩) hHeld ?_ ?_
  rotate_left
  · rintro w' ⟨s0, s1⟩
    go_simp
    with_reducible rfl
  rotate_left
  · simp only [Act.put, List.setIfInBounds_toArray, List.set_cons_zero, List.set_cons_succ, i64_w, i32_w]
    rfl
  refine one_ (i := 2) (N := some 23) #[true, true, true, true, true, false, false, false] rfl rfl (one_of HT_.out (by kernel_rfl)) (by decide) (fun K hK => ?_)
  refine goes_ Try.func19 (by kernel_rfl) rfl #[.string a1_0] (by rfl) rfl rfl (by (try simp only [List.map_toArray, List.map_cons, List.map_nil]); first | done | rfl | (simp only [List.length_drop, List.length_take]; rfl)) ?_
  with_reducible refine (bazaarlaw06_text.calls a1_0 t417 _ A6.out).mono ?_
  rintro e w33 ⟨rfl, hb⟩
  refine ⟨_, rfl, ?_⟩
  replace HO410 := Aside0.mk (Kd.R_below (R_ HO410.out) hb)
  replace HO413 := Aside0.mk (Kd.R_below (R_ HO413.out) hb)
  replace HO416 := Aside0.mk (Kd.R_below (R_ HO416.out) hb)
  replace BK405 := Aside0.mk (blk_below (g := gb405) (o := .cells #[.slice Ao27 t408.length co27, .slice Ao29 t411.length co29, .slice Ao30 t414.length co30] 26 (0, 0)) (B_ BK405.out) hb)
  replace BK406 := Aside0.mk (blk_below (g := gb406) (o := .cells #[.string a1_0, .string a1_1] 39 (0, 0)) (B_ BK406.out) hb)
  replace HB := Aside0.mk (below_step (L_ HB.out) hb)
  (try clear hb)
  (try clear hb2)
  (try clear hk)
  (try clear hi)
  refine hK.out _ _ ⟨(blk_cell BK406.out 0).trans rfl, (blk_cell BK406.out 1).trans rfl⟩ (fun hHeld => ?_)
  clear hK K
  refine norm_ (a' := ?_) ?_ ?_
  rotate_left
  · show Act.put _ (some 23) _ = _
    simp only [Act.put, List.setIfInBounds_toArray, List.set_cons_zero, List.set_cons_succ, i64_w, i32_w]
    rfl
  refine one_ (i := 5) (N := some 26) #[true, true, true, true, true, true, false, false] rfl rfl (one_of HT_.out (by kernel_rfl)) (by decide) (fun K hK => ?_)
  refine goes_ Try.func19 (by kernel_rfl) rfl #[.string a1_1] (by rfl) rfl rfl (by (try simp only [List.map_toArray, List.map_cons, List.map_nil]); first | done | rfl | (simp only [List.length_drop, List.length_take]; rfl)) ?_
  with_reducible refine (bazaarlaw06_text.calls a1_1 t418 _ A7.out).mono ?_
  rintro e w34 ⟨rfl, hb⟩
  refine ⟨_, rfl, ?_⟩
  replace HO410 := Aside0.mk (Kd.R_below (R_ HO410.out) hb)
  replace HO413 := Aside0.mk (Kd.R_below (R_ HO413.out) hb)
  replace HO416 := Aside0.mk (Kd.R_below (R_ HO416.out) hb)
  replace BK405 := Aside0.mk (blk_below (g := gb405) (o := .cells #[.slice Ao27 t408.length co27, .slice Ao29 t411.length co29, .slice Ao30 t414.length co30] 26 (0, 0)) (B_ BK405.out) hb)
  replace BK406 := Aside0.mk (blk_below (g := gb406) (o := .cells #[.string a1_0, .string a1_1] 39 (0, 0)) (B_ BK406.out) hb)
  replace HB := Aside0.mk (below_step (L_ HB.out) hb)
  (try clear hb)
  (try clear hb2)
  (try clear hk)
  (try clear hi)
  refine hK.out _ _ ⟨(blk_cell BK406.out 0).trans rfl, (blk_cell BK406.out 1).trans rfl⟩ (fun hHeld => ?_)
  clear hK K
  refine norm_ (a' := ?_) ?_ ?_
  rotate_left
  · show Act.put _ (some 26) _ = _
    simp only [Act.put, List.setIfInBounds_toArray, List.set_cons_zero, List.set_cons_succ, i64_w, i32_w]
    rfl
  refine pure_ (i := 6) (N := some 27) (v := ?_) (a' := ?_) #[true, true, true, true, true, true, true, false] rfl rfl (any_of HT_.out (by kernel_rfl)) (fun _ _ _ h => h) (Or.inl ⟨by rfl, ?_⟩) ?_ ?_
  rotate_left
  · intro w'
    go_simp
    with_reducible rfl
  rotate_left
  · simp only [Act.put, List.setIfInBounds_toArray, List.set_cons_zero, List.set_cons_succ, i64_w, i32_w]
    rfl
  refine last_ (i := 7) (N := none) #[true, true, true, true, true, true, true, true] rfl rfl (one_of HT_.out (by kernel_rfl)) (by decide) (fun K hK => ?_)
  have hs35 : w34.cell? ⟨gb406, 0, none⟩ = some (.string a1_0) := (blk_cell BK406.out 0).trans rfl
  have hfs35 := blk_frozen BK406.out 0
  have hns35_0 := NB405_406.out
  have hms35_0 := NB406_405.out
  have hs36 : w34.cell? ⟨gb406, 1, none⟩ = some (.string a1_1) := (blk_cell BK406.out 1).trans rfl
  have hfs36 := blk_frozen BK406.out 1
  have hns36_0 := NB405_406.out
  have hms36_0 := NB406_405.out
  refine skip_ (w1 := ?_) (by rfl) rfl ?_ ?_
  rotate_left
  · go_simp
    rfl
  refine hK.out _ _ ?_
  clear hK K
  refine done_ (done_of HT_.out (by kernel_rfl)) ?_
  have hcz37_0 : w34.cell? ⟨gb405, 0, none⟩ = some (.slice Ao27 t408.length co27) := (blk_cell BK405.out 0).trans rfl
  have hcz37_1 : w34.cell? ⟨gb405, 1, none⟩ = some (.slice Ao29 t411.length co29) := (blk_cell BK405.out 1).trans rfl
  have hcz37_2 : w34.cell? ⟨gb405, 2, none⟩ = some (.slice Ao30 t414.length co30) := (blk_cell BK405.out 2).trans rfl
  have hfz37_0 := blk_frozen BK405.out 0
  have hfz37_1 := blk_frozen BK405.out 1
  have hfz37_2 := blk_frozen BK405.out 2
  have hcz38_0 : w34.cell? ⟨gb406, 0, none⟩ = some (.string a1_0) := (blk_cell BK406.out 0).trans rfl
  have hcz38_1 : w34.cell? ⟨gb406, 1, none⟩ = some (.string a1_1) := (blk_cell BK406.out 1).trans rfl
  have hfz38_0 := blk_frozen BK406.out 0
  have hfz38_1 := blk_frozen BK406.out 1
  try go_wp2_with (first | ((with_reducible refine gate_callee (f := 22) rfl ?_); refine goesL_ (some 31) rfl rfl Try.func22 (by kernel_rfl) rfl #[.agg #[.slice Ao27 t408.length co27, .slice Ao29 t411.length co29, .slice Ao30 t414.length co30], .agg #[.string t417, .string t418]] rfl (by (try simp only [List.map_toArray, List.map_cons, List.map_nil]); first | done | rfl | (simp only [List.length_drop, List.length_take]; rfl)) ?_; (with_reducible refine (node_Put.calls _ _ t408 _ _ t411 _ _ t414 t417 t418 t419 t422 t425 t428 _ ?side1 ?side2 ?side3 ?side4 ?side5 ?side6 A8.out).mono ?_); (case side1 => refine (Kd.R_reads' (e := 39) (base := w.heap.size) (ok := fun k_ => k_ ≠ gb406) (n := t408.length) (c := co27) ?_).2.2; exact (by (with_reducible repeat (first | apply Kd.R_alloc | apply Kd.R_drewN | apply Kd.R_drew)); exact (Kd.R_mono (Kd.R_far (p := ⟨gb406, 1, none⟩) (Kd.R_far (p := ⟨gb406, 0, none⟩) (Kd.R_mono HO410.out (fun k_ hk => (⟨hk, hk⟩ : _ ∧ k_ ≠ gb406))) (fun _ hk => hk.2) (.string t417)) (fun _ hk => hk.2) (.string t418)) (fun _ h_ => h_.1)))); (case side2 => exact (Kd.R_reads' HO410.out).2.1); (case side3 => refine (Kd.R_reads' (e := 9) (base := w.heap.size) (ok := fun k_ => True) (n := t411.length) (c := co29) ?_).2.2; exact (by (with_reducible repeat (first | apply Kd.R_alloc | apply Kd.R_drewN | apply Kd.R_drew)); exact (Kd.R_mono (Kd.R_far (p := ⟨gb406, 1, none⟩) (Kd.R_far (p := ⟨gb406, 0, none⟩) (Kd.R_types HO413.out BK406.out (by decide)) (fun _ hk => hk.2) (.string t417)) (fun _ hk => hk.2) (.string t418)) (fun _ h_ => h_.1)))); (case side4 => exact (Kd.R_reads' HO413.out).2.1); (case side5 => refine (Kd.R_reads' (e := 65) (base := w.heap.size) (ok := fun k_ => True) (n := t414.length) (c := co30) ?_).2.2; exact (by (with_reducible repeat (first | apply Kd.R_alloc | apply Kd.R_drewN | apply Kd.R_drew)); exact (Kd.R_mono (Kd.R_far (p := ⟨gb406, 1, none⟩) (Kd.R_far (p := ⟨gb406, 0, none⟩) (Kd.R_types HO416.out BK406.out (by decide)) (fun _ hk => hk.2) (.string t417)) (fun _ hk => hk.2) (.string t418)) (fun _ h_ => h_.1)))); (case side6 => exact (Kd.R_reads' HO416.out).2.1); rintro e w39 ⟨v420, v423, v426, rfl, ho0, ho1, ho2, hb⟩; refine ⟨_, rfl, ?_⟩; have HO421 := Aside0.mk (Kd.R_lower (Kd.R_newB (Kd.R_new' ho0 (Kd.R_lt (by (with_reducible repeat (first | apply Kd.R_alloc | apply Kd.R_drewN | apply Kd.R_drew)); exact (Kd.R_mono (Kd.R_far (p := ⟨gb406, 1, none⟩) (Kd.R_far (p := ⟨gb406, 0, none⟩) (Kd.R_mono HO410.out (fun k_ hk => (⟨hk, hk⟩ : _ ∧ k_ ≠ gb406))) (fun _ hk => hk.2) (.string t417)) (fun _ hk => hk.2) (.string t418)) (fun _ h_ => h_.1))))) (g := gb406) (o := .cells #[.string t417, .string t418] 39 (0, 0)) (by (with_reducible repeat (first | refine blk_drewN ?_ _ | refine blk_drew ?_ | refine blk_alloc ?_ _)); refine blk_put (cs := #[.string t417, .string a1_1]) ?_ 1 _ rfl; (with_reducible repeat (first | refine blk_drewN ?_ _ | refine blk_drew ?_ | refine blk_alloc ?_ _)); refine blk_put (cs := #[.string a1_0, .string a1_1]) ?_ 0 _ rfl; (with_reducible repeat (first | refine blk_drewN ?_ _ | refine blk_drew ?_ | refine blk_alloc ?_ _)); exact BK406.out)) (below_size (by repeat (first | (with_reducible first | exact HB.out | apply below_alloc | apply pw_below_drewN | apply below_drew1 | refine below_set ?_ GE405.out | refine below_set ?_ GE406.out) | exact HB.out)))); have HO424 := Aside0.mk (Kd.R_lower (Kd.R_new' ho1 (Kd.R_lt (by (with_reducible repeat (first | apply Kd.R_alloc | apply Kd.R_drewN | apply Kd.R_drew)); exact (Kd.R_mono (Kd.R_far (p := ⟨gb406, 1, none⟩) (Kd.R_far (p := ⟨gb406, 0, none⟩) (Kd.R_types HO413.out BK406.out (by decide)) (fun _ hk => hk.2) (.string t417)) (fun _ hk => hk.2) (.string t418)) (fun _ h_ => h_.1))))) (below_size (by repeat (first | (with_reducible first | exact HB.out | apply below_alloc | apply pw_below_drewN | apply below_drew1 | refine below_set ?_ GE405.out | refine below_set ?_ GE406.out) | exact HB.out)))); have HO427 := Aside0.mk (Kd.R_lower (Kd.R_new' ho2 (Kd.R_lt (by (with_reducible repeat (first | apply Kd.R_alloc | apply Kd.R_drewN | apply Kd.R_drew)); exact (Kd.R_mono (Kd.R_far (p := ⟨gb406, 1, none⟩) (Kd.R_far (p := ⟨gb406, 0, none⟩) (Kd.R_types HO416.out BK406.out (by decide)) (fun _ hk => hk.2) (.string t417)) (fun _ hk => hk.2) (.string t418)) (fun _ h_ => h_.1))))) (below_size (by repeat (first | (with_reducible first | exact HB.out | apply below_alloc | apply pw_below_drewN | apply below_drew1 | refine below_set ?_ GE405.out | refine below_set ?_ GE406.out) | exact HB.out)))); replace HO410 := Aside0.mk (Kd.R_elder' (by (with_reducible repeat (first | apply Kd.R_alloc | apply Kd.R_drewN | apply Kd.R_drew)); exact (Kd.R_mono (Kd.R_far (p := ⟨gb406, 1, none⟩) (Kd.R_far (p := ⟨gb406, 0, none⟩) (Kd.R_mono HO410.out (fun k_ hk => (⟨hk, hk⟩ : _ ∧ k_ ≠ gb406))) (fun _ hk => hk.2) (.string t417)) (fun _ hk => hk.2) (.string t418)) (fun _ h_ => h_.1))) (Kd.R_base ho0) hb); replace HO413 := Aside0.mk (Kd.R_elder' (by (with_reducible repeat (first | apply Kd.R_alloc | apply Kd.R_drewN | apply Kd.R_drew)); exact (Kd.R_mono (Kd.R_far (p := ⟨gb406, 1, none⟩) (Kd.R_far (p := ⟨gb406, 0, none⟩) (Kd.R_types HO413.out BK406.out (by decide)) (fun _ hk => hk.2) (.string t417)) (fun _ hk => hk.2) (.string t418)) (fun _ h_ => h_.1))) (Kd.R_base ho1) hb); replace HO416 := Aside0.mk (Kd.R_elder' (by (with_reducible repeat (first | apply Kd.R_alloc | apply Kd.R_drewN | apply Kd.R_drew)); exact (Kd.R_mono (Kd.R_far (p := ⟨gb406, 1, none⟩) (Kd.R_far (p := ⟨gb406, 0, none⟩) (Kd.R_types HO416.out BK406.out (by decide)) (fun _ hk => hk.2) (.string t417)) (fun _ hk => hk.2) (.string t418)) (fun _ h_ => h_.1))) (Kd.R_base ho2) hb); replace BK405 := Aside0.mk (blk_below (g := gb405) (o := .cells #[.slice Ao27 t408.length co27, .slice Ao29 t411.length co29, .slice Ao30 t414.length co30] 26 (0, 0)) (by (with_reducible repeat (first | refine blk_drewN ?_ _ | refine blk_drew ?_ | refine blk_alloc ?_ _)); refine blk_far ?_ NB405_406.out _; (with_reducible repeat (first | refine blk_drewN ?_ _ | refine blk_drew ?_ | refine blk_alloc ?_ _)); refine blk_far ?_ NB405_406.out _; (with_reducible repeat (first | refine blk_drewN ?_ _ | refine blk_drew ?_ | refine blk_alloc ?_ _)); exact BK405.out) hb); replace BK406 := Aside0.mk (blk_below (g := gb406) (o := .cells #[.string t417, .string t418] 39 (0, 0)) (by (with_reducible repeat (first | refine blk_drewN ?_ _ | refine blk_drew ?_ | refine blk_alloc ?_ _)); refine blk_put (cs := #[.string t417, .string a1_1]) ?_ 1 _ rfl; (with_reducible repeat (first | refine blk_drewN ?_ _ | refine blk_drew ?_ | refine blk_alloc ?_ _)); refine blk_put (cs := #[.string a1_0, .string a1_1]) ?_ 0 _ rfl; (with_reducible repeat (first | refine blk_drewN ?_ _ | refine blk_drew ?_ | refine blk_alloc ?_ _)); exact BK406.out) hb); replace HB := Aside0.mk (below_step (by repeat (first | (with_reducible first | exact HB.out | apply below_alloc | apply pw_below_drewN | apply below_drew1 | refine below_set ?_ GE405.out | refine below_set ?_ GE406.out) | exact HB.out)) hb); (try clear hb); (try clear hb2); (try clear hk); (try clear hi); (try clear ho0); (try clear ho1); (try clear ho2)) | ((with_reducible refine gate_dst (N := 8) rfl ?_); refine box_event ?hg (N := 8) ?hd (cs := #[.slice none 0 0, .slice none 0 0, .slice none 0 0]) (t := 26) ?hr ?_; (case hd => rfl); (case hg => rfl); (case hr => first | (go_simp; done) | (go_simp; rfl)); intro gb429 hg w40 hbox hb; have BK429 := Aside0.mk (hbox); have GW429 := Aside0.mk ((by rw [hg]; exact (below_size (by repeat (first | (with_reducible first | exact HB.out | apply below_alloc | apply pw_below_drewN | apply below_drew1 | refine below_set ?_ GE405.out | refine below_set ?_ GE406.out) | exact HB.out))) : w.heap.size ≤ gb429)); have GE429 := Aside0.mk ((by rw [hg]; exact (below_size (by repeat (first | (with_reducible first | exact HB.out | apply below_alloc | apply pw_below_drewN | apply below_drew1 | refine below_set ?_ GE405.out | refine below_set ?_ GE406.out) | exact HB.out))) : w.heap.size ≤ gb429)); have NB405_429 := Aside0.mk ((by rw [hg]; exact Nat.ne_of_lt (blk_lt (g := gb405) (o := .cells #[.slice Ao27 t408.length co27, .slice Ao29 t411.length co29, .slice Ao30 t414.length co30] 26 (0, 0)) (by (with_reducible repeat (first | refine blk_drewN ?_ _ | refine blk_drew ?_ | refine blk_alloc ?_ _)); exact BK405.out)) : gb405 ≠ gb429)); have NB429_405 := Aside0.mk ((by rw [hg]; exact Nat.ne_of_gt (blk_lt (g := gb405) (o := .cells #[.slice Ao27 t408.length co27, .slice Ao29 t411.length co29, .slice Ao30 t414.length co30] 26 (0, 0)) (by (with_reducible repeat (first | refine blk_drewN ?_ _ | refine blk_drew ?_ | refine blk_alloc ?_ _)); exact BK405.out)) : gb429 ≠ gb405)); have NB406_429 := Aside0.mk ((by rw [hg]; exact Nat.ne_of_lt (blk_lt (g := gb406) (o := .cells #[.string t417, .string t418] 39 (0, 0)) (by (with_reducible repeat (first | refine blk_drewN ?_ _ | refine blk_drew ?_ | refine blk_alloc ?_ _)); exact BK406.out)) : gb406 ≠ gb429)); have NB429_406 := Aside0.mk ((by rw [hg]; exact Nat.ne_of_gt (blk_lt (g := gb406) (o := .cells #[.string t417, .string t418] 39 (0, 0)) (by (with_reducible repeat (first | refine blk_drewN ?_ _ | refine blk_drew ?_ | refine blk_alloc ?_ _)); exact BK406.out)) : gb429 ≠ gb406)); replace HO410 := Aside0.mk (Kd.R_below (by (with_reducible repeat (first | apply Kd.R_alloc | apply Kd.R_drewN | apply Kd.R_drew)); exact HO410.out) hb); replace HO413 := Aside0.mk (Kd.R_below (by (with_reducible repeat (first | apply Kd.R_alloc | apply Kd.R_drewN | apply Kd.R_drew)); exact HO413.out) hb); replace HO416 := Aside0.mk (Kd.R_below (by (with_reducible repeat (first | apply Kd.R_alloc | apply Kd.R_drewN | apply Kd.R_drew)); exact HO416.out) hb); replace HO421 := Aside0.mk (Kd.R_below (by (with_reducible repeat (first | apply Kd.R_alloc | apply Kd.R_drewN | apply Kd.R_drew)); exact HO421.out) hb); replace HO424 := Aside0.mk (Kd.R_below (by (with_reducible repeat (first | apply Kd.R_alloc | apply Kd.R_drewN | apply Kd.R_drew)); exact HO424.out) hb); replace HO427 := Aside0.mk (Kd.R_below (by (with_reducible repeat (first | apply Kd.R_alloc | apply Kd.R_drewN | apply Kd.R_drew)); exact HO427.out) hb); replace BK405 := Aside0.mk (blk_below (g := gb405) (o := .cells #[.slice Ao27 t408.length co27, .slice Ao29 t411.length co29, .slice Ao30 t414.length co30] 26 (0, 0)) (by (with_reducible repeat (first | refine blk_drewN ?_ _ | refine blk_drew ?_ | refine blk_alloc ?_ _)); exact BK405.out) hb); replace BK406 := Aside0.mk (blk_below (g := gb406) (o := .cells #[.string t417, .string t418] 39 (0, 0)) (by (with_reducible repeat (first | refine blk_drewN ?_ _ | refine blk_drew ?_ | refine blk_alloc ?_ _)); exact BK406.out) hb); replace HB := Aside0.mk (below_step (by repeat (first | (with_reducible first | exact HB.out | apply below_alloc | apply pw_below_drewN | apply below_drew1 | refine below_set ?_ GE405.out | refine below_set ?_ GE406.out) | exact HB.out)) hb); clear hb hbox hg; obtain ⟨Ao41, co41, eo41⟩ := Kd.R_slice HO421.out; subst eo41; have hnb42 := NB429_405.out; have hnc42 := NB405_429.out; have hnb43 := NB429_406.out; have hnc43 := NB406_429.out; have hcz44_0 : w40.cell? ⟨gb429, 0, none⟩ = some (.slice none 0 0) := (blk_cell BK429.out 0).trans rfl; have hcz44_1 : w40.cell? ⟨gb429, 1, none⟩ = some (.slice none 0 0) := (blk_cell BK429.out 1).trans rfl; have hcz44_2 : w40.cell? ⟨gb429, 2, none⟩ = some (.slice none 0 0) := (blk_cell BK429.out 2).trans rfl; have hfz44_0 := blk_frozen BK429.out 0; have hfz44_1 := blk_frozen BK429.out 1; have hfz44_2 := blk_frozen BK429.out 2; obtain ⟨Ao45, co45, eo45⟩ := Kd.R_slice HO424.out; subst eo45; obtain ⟨Ao46, co46, eo46⟩ := Kd.R_slice HO427.out; subst eo46; have hcz47_0 : w40.cell? ⟨gb405, 0, none⟩ = some (.slice Ao27 t408.length co27) := (blk_cell BK405.out 0).trans rfl; have hcz47_1 : w40.cell? ⟨gb405, 1, none⟩ = some (.slice Ao29 t411.length co29) := (blk_cell BK405.out 1).trans rfl; have hcz47_2 : w40.cell? ⟨gb405, 2, none⟩ = some (.slice Ao30 t414.length co30) := (blk_cell BK405.out 2).trans rfl; have hfz47_0 := blk_frozen BK405.out 0; have hfz47_1 := blk_frozen BK405.out 1; have hfz47_2 := blk_frozen BK405.out 2; have hcz48_0 : w40.cell? ⟨gb406, 0, none⟩ = some (.string t417) := (blk_cell BK406.out 0).trans rfl; have hcz48_1 : w40.cell? ⟨gb406, 1, none⟩ = some (.string t418) := (blk_cell BK406.out 1).trans rfl; have hfz48_0 := blk_frozen BK406.out 0; have hfz48_1 := blk_frozen BK406.out 1) | ((with_reducible refine gate_callee (f := 23) rfl ?_); refine goesL_ (some 37) rfl rfl Try.func23 (by kernel_rfl) rfl #[.agg #[.slice Ao27 t408.length co27, .slice Ao29 t411.length co29, .slice Ao30 t414.length co30], .agg #[.string t417, .string t418]] rfl (by (try simp only [List.map_toArray, List.map_cons, List.map_nil]); first | done | rfl | (simp only [List.length_drop, List.length_take]; rfl)) ?_; (with_reducible refine (bazaarref06_Put.calls k _ _ t408 _ _ t411 _ _ t414 t417 t418 t430 t433 t436 t439 _ ?side1 ?side2 ?side3 ?side4 ?side5 ?side6 A9.out).mono ?_); (case side1 => refine (Kd.R_reads' (e := 39) (base := w.heap.size) (ok := fun k_ => (k_ ≠ gb406 ∧ some k_ ≠ (.slice Ao41 t419.length co41 : Value).ownBlock)) (n := t408.length) (c := co27) ?_).2.2; exact (by (with_reducible repeat (first | apply Kd.R_alloc | apply Kd.R_drewN | apply Kd.R_drew)); exact (Kd.R_mono (Kd.R_far (p := ⟨gb429, 2, none⟩) (Kd.R_far (p := ⟨gb429, 1, none⟩) (Kd.R_far (p := ⟨gb429, 0, none⟩) (Kd.R_types HO410.out BK429.out (by decide)) (fun _ hk => hk.2) (.slice Ao41 t419.length co41)) (fun _ hk => hk.2) (.slice Ao45 t422.length co45)) (fun _ hk => hk.2) (.slice Ao46 t425.length co46)) (fun _ h_ => h_.1)))); (case side2 => exact (Kd.R_reads' HO410.out).2.1); (case side3 => refine (Kd.R_reads' (e := 9) (base := w.heap.size) (ok := fun k_ => (True ∧ some k_ ≠ (.slice Ao45 t422.length co45 : Value).ownBlock)) (n := t411.length) (c := co29) ?_).2.2; exact (by (with_reducible repeat (first | apply Kd.R_alloc | apply Kd.R_drewN | apply Kd.R_drew)); exact (Kd.R_mono (Kd.R_far (p := ⟨gb429, 2, none⟩) (Kd.R_far (p := ⟨gb429, 1, none⟩) (Kd.R_far (p := ⟨gb429, 0, none⟩) (Kd.R_types HO413.out BK429.out (by decide)) (fun _ hk => hk.2) (.slice Ao41 t419.length co41)) (fun _ hk => hk.2) (.slice Ao45 t422.length co45)) (fun _ hk => hk.2) (.slice Ao46 t425.length co46)) (fun _ h_ => h_.1)))); (case side4 => exact (Kd.R_reads' HO413.out).2.1); (case side5 => refine (Kd.R_reads' (e := 65) (base := w.heap.size) (ok := fun k_ => (True ∧ some k_ ≠ (.slice Ao46 t425.length co46 : Value).ownBlock)) (n := t414.length) (c := co30) ?_).2.2; exact (by (with_reducible repeat (first | apply Kd.R_alloc | apply Kd.R_drewN | apply Kd.R_drew)); exact (Kd.R_mono (Kd.R_far (p := ⟨gb429, 2, none⟩) (Kd.R_far (p := ⟨gb429, 1, none⟩) (Kd.R_far (p := ⟨gb429, 0, none⟩) (Kd.R_types HO416.out BK429.out (by decide)) (fun _ hk => hk.2) (.slice Ao41 t419.length co41)) (fun _ hk => hk.2) (.slice Ao45 t422.length co45)) (fun _ hk => hk.2) (.slice Ao46 t425.length co46)) (fun _ h_ => h_.1)))); (case side6 => exact (Kd.R_reads' HO416.out).2.1); rintro e w49 ⟨v431, v434, v437, rfl, ho0, ho1, ho2, hb⟩; refine ⟨_, rfl, ?_⟩; have HO432 := Aside0.mk (Kd.R_lower (Kd.R_newB (Kd.R_new' (Kd.R_new' ho0 (Kd.R_lt (by (with_reducible repeat (first | apply Kd.R_alloc | apply Kd.R_drewN | apply Kd.R_drew)); exact (Kd.R_mono (Kd.R_far (p := ⟨gb429, 2, none⟩) (Kd.R_far (p := ⟨gb429, 1, none⟩) (Kd.R_far (p := ⟨gb429, 0, none⟩) (Kd.R_types HO410.out BK429.out (by decide)) (fun _ hk => hk.2) (.slice Ao41 t419.length co41)) (fun _ hk => hk.2) (.slice Ao45 t422.length co45)) (fun _ hk => hk.2) (.slice Ao46 t425.length co46)) (fun _ h_ => h_.1))))) (Kd.R_lt (by (with_reducible repeat (first | apply Kd.R_alloc | apply Kd.R_drewN | apply Kd.R_drew)); exact (Kd.R_mono (Kd.R_far (p := ⟨gb429, 2, none⟩) (Kd.R_far (p := ⟨gb429, 1, none⟩) (Kd.R_far (p := ⟨gb429, 0, none⟩) (Kd.R_types HO421.out BK429.out (by decide)) (fun _ hk => hk.2) (.slice Ao41 t419.length co41)) (fun _ hk => hk.2) (.slice Ao45 t422.length co45)) (fun _ hk => hk.2) (.slice Ao46 t425.length co46)) (fun _ h_ => h_.1))))) (g := gb406) (o := .cells #[.string t417, .string t418] 39 (0, 0)) (by (with_reducible repeat (first | refine blk_drewN ?_ _ | refine blk_drew ?_ | refine blk_alloc ?_ _)); refine blk_far ?_ NB406_429.out _; (with_reducible repeat (first | refine blk_drewN ?_ _ | refine blk_drew ?_ | refine blk_alloc ?_ _)); refine blk_far ?_ NB406_429.out _; (with_reducible repeat (first | refine blk_drewN ?_ _ | refine blk_drew ?_ | refine blk_alloc ?_ _)); refine blk_far ?_ NB406_429.out _; (with_reducible repeat (first | refine blk_drewN ?_ _ | refine blk_drew ?_ | refine blk_alloc ?_ _)); exact BK406.out)) (below_size (by repeat (first | (with_reducible first | exact HB.out | apply below_alloc | apply pw_below_drewN | apply below_drew1 | refine below_set ?_ GE405.out | refine below_set ?_ GE406.out | refine below_set ?_ GE429.out) | exact HB.out)))); have HO435 := Aside0.mk (Kd.R_lower (Kd.R_new' (Kd.R_new' ho1 (Kd.R_lt (by (with_reducible repeat (first | apply Kd.R_alloc | apply Kd.R_drewN | apply Kd.R_drew)); exact (Kd.R_mono (Kd.R_far (p := ⟨gb429, 2, none⟩) (Kd.R_far (p := ⟨gb429, 1, none⟩) (Kd.R_far (p := ⟨gb429, 0, none⟩) (Kd.R_types HO413.out BK429.out (by decide)) (fun _ hk => hk.2) (.slice Ao41 t419.length co41)) (fun _ hk => hk.2) (.slice Ao45 t422.length co45)) (fun _ hk => hk.2) (.slice Ao46 t425.length co46)) (fun _ h_ => h_.1))))) (Kd.R_lt (by (with_reducible repeat (first | apply Kd.R_alloc | apply Kd.R_drewN | apply Kd.R_drew)); exact (Kd.R_mono (Kd.R_far (p := ⟨gb429, 2, none⟩) (Kd.R_far (p := ⟨gb429, 1, none⟩) (Kd.R_far (p := ⟨gb429, 0, none⟩) (Kd.R_types HO424.out BK429.out (by decide)) (fun _ hk => hk.2) (.slice Ao41 t419.length co41)) (fun _ hk => hk.2) (.slice Ao45 t422.length co45)) (fun _ hk => hk.2) (.slice Ao46 t425.length co46)) (fun _ h_ => h_.1))))) (below_size (by repeat (first | (with_reducible first | exact HB.out | apply below_alloc | apply pw_below_drewN | apply below_drew1 | refine below_set ?_ GE405.out | refine below_set ?_ GE406.out | refine below_set ?_ GE429.out) | exact HB.out)))); have HO438 := Aside0.mk (Kd.R_lower (Kd.R_new' (Kd.R_new' ho2 (Kd.R_lt (by (with_reducible repeat (first | apply Kd.R_alloc | apply Kd.R_drewN | apply Kd.R_drew)); exact (Kd.R_mono (Kd.R_far (p := ⟨gb429, 2, none⟩) (Kd.R_far (p := ⟨gb429, 1, none⟩) (Kd.R_far (p := ⟨gb429, 0, none⟩) (Kd.R_types HO416.out BK429.out (by decide)) (fun _ hk => hk.2) (.slice Ao41 t419.length co41)) (fun _ hk => hk.2) (.slice Ao45 t422.length co45)) (fun _ hk => hk.2) (.slice Ao46 t425.length co46)) (fun _ h_ => h_.1))))) (Kd.R_lt (by (with_reducible repeat (first | apply Kd.R_alloc | apply Kd.R_drewN | apply Kd.R_drew)); exact (Kd.R_mono (Kd.R_far (p := ⟨gb429, 2, none⟩) (Kd.R_far (p := ⟨gb429, 1, none⟩) (Kd.R_far (p := ⟨gb429, 0, none⟩) (Kd.R_types HO427.out BK429.out (by decide)) (fun _ hk => hk.2) (.slice Ao41 t419.length co41)) (fun _ hk => hk.2) (.slice Ao45 t422.length co45)) (fun _ hk => hk.2) (.slice Ao46 t425.length co46)) (fun _ h_ => h_.1))))) (below_size (by repeat (first | (with_reducible first | exact HB.out | apply below_alloc | apply pw_below_drewN | apply below_drew1 | refine below_set ?_ GE405.out | refine below_set ?_ GE406.out | refine below_set ?_ GE429.out) | exact HB.out)))); replace HO410 := Aside0.mk (Kd.R_elder' (by (with_reducible repeat (first | apply Kd.R_alloc | apply Kd.R_drewN | apply Kd.R_drew)); exact (Kd.R_mono (Kd.R_far (p := ⟨gb429, 2, none⟩) (Kd.R_far (p := ⟨gb429, 1, none⟩) (Kd.R_far (p := ⟨gb429, 0, none⟩) (Kd.R_types HO410.out BK429.out (by decide)) (fun _ hk => hk.2) (.slice Ao41 t419.length co41)) (fun _ hk => hk.2) (.slice Ao45 t422.length co45)) (fun _ hk => hk.2) (.slice Ao46 t425.length co46)) (fun _ h_ => h_.1))) (Kd.R_base ho0) hb); replace HO413 := Aside0.mk (Kd.R_elder' (by (with_reducible repeat (first | apply Kd.R_alloc | apply Kd.R_drewN | apply Kd.R_drew)); exact (Kd.R_mono (Kd.R_far (p := ⟨gb429, 2, none⟩) (Kd.R_far (p := ⟨gb429, 1, none⟩) (Kd.R_far (p := ⟨gb429, 0, none⟩) (Kd.R_types HO413.out BK429.out (by decide)) (fun _ hk => hk.2) (.slice Ao41 t419.length co41)) (fun _ hk => hk.2) (.slice Ao45 t422.length co45)) (fun _ hk => hk.2) (.slice Ao46 t425.length co46)) (fun _ h_ => h_.1))) (Kd.R_base ho1) hb); replace HO416 := Aside0.mk (Kd.R_elder' (by (with_reducible repeat (first | apply Kd.R_alloc | apply Kd.R_drewN | apply Kd.R_drew)); exact (Kd.R_mono (Kd.R_far (p := ⟨gb429, 2, none⟩) (Kd.R_far (p := ⟨gb429, 1, none⟩) (Kd.R_far (p := ⟨gb429, 0, none⟩) (Kd.R_types HO416.out BK429.out (by decide)) (fun _ hk => hk.2) (.slice Ao41 t419.length co41)) (fun _ hk => hk.2) (.slice Ao45 t422.length co45)) (fun _ hk => hk.2) (.slice Ao46 t425.length co46)) (fun _ h_ => h_.1))) (Kd.R_base ho2) hb); replace HO421 := Aside0.mk (Kd.R_elder' (by (with_reducible repeat (first | apply Kd.R_alloc | apply Kd.R_drewN | apply Kd.R_drew)); exact (Kd.R_mono (Kd.R_far (p := ⟨gb429, 2, none⟩) (Kd.R_far (p := ⟨gb429, 1, none⟩) (Kd.R_far (p := ⟨gb429, 0, none⟩) (Kd.R_types HO421.out BK429.out (by decide)) (fun _ hk => hk.2) (.slice Ao41 t419.length co41)) (fun _ hk => hk.2) (.slice Ao45 t422.length co45)) (fun _ hk => hk.2) (.slice Ao46 t425.length co46)) (fun _ h_ => h_.1))) (Kd.R_base ho0) hb); replace HO424 := Aside0.mk (Kd.R_elder' (by (with_reducible repeat (first | apply Kd.R_alloc | apply Kd.R_drewN | apply Kd.R_drew)); exact (Kd.R_mono (Kd.R_far (p := ⟨gb429, 2, none⟩) (Kd.R_far (p := ⟨gb429, 1, none⟩) (Kd.R_far (p := ⟨gb429, 0, none⟩) (Kd.R_types HO424.out BK429.out (by decide)) (fun _ hk => hk.2) (.slice Ao41 t419.length co41)) (fun _ hk => hk.2) (.slice Ao45 t422.length co45)) (fun _ hk => hk.2) (.slice Ao46 t425.length co46)) (fun _ h_ => h_.1))) (Kd.R_base ho1) hb); replace HO427 := Aside0.mk (Kd.R_elder' (by (with_reducible repeat (first | apply Kd.R_alloc | apply Kd.R_drewN | apply Kd.R_drew)); exact (Kd.R_mono (Kd.R_far (p := ⟨gb429, 2, none⟩) (Kd.R_far (p := ⟨gb429, 1, none⟩) (Kd.R_far (p := ⟨gb429, 0, none⟩) (Kd.R_types HO427.out BK429.out (by decide)) (fun _ hk => hk.2) (.slice Ao41 t419.length co41)) (fun _ hk => hk.2) (.slice Ao45 t422.length co45)) (fun _ hk => hk.2) (.slice Ao46 t425.length co46)) (fun _ h_ => h_.1))) (Kd.R_base ho2) hb); replace BK405 := Aside0.mk (blk_below (g := gb405) (o := .cells #[.slice Ao27 t408.length co27, .slice Ao29 t411.length co29, .slice Ao30 t414.length co30] 26 (0, 0)) (by (with_reducible repeat (first | refine blk_drewN ?_ _ | refine blk_drew ?_ | refine blk_alloc ?_ _)); refine blk_far ?_ NB405_429.out _; (with_reducible repeat (first | refine blk_drewN ?_ _ | refine blk_drew ?_ | refine blk_alloc ?_ _)); refine blk_far ?_ NB405_429.out _; (with_reducible repeat (first | refine blk_drewN ?_ _ | refine blk_drew ?_ | refine blk_alloc ?_ _)); refine blk_far ?_ NB405_429.out _; (with_reducible repeat (first | refine blk_drewN ?_ _ | refine blk_drew ?_ | refine blk_alloc ?_ _)); exact BK405.out) hb); replace BK406 := Aside0.mk (blk_below (g := gb406) (o := .cells #[.string t417, .string t418] 39 (0, 0)) (by (with_reducible repeat (first | refine blk_drewN ?_ _ | refine blk_drew ?_ | refine blk_alloc ?_ _)); refine blk_far ?_ NB406_429.out _; (with_reducible repeat (first | refine blk_drewN ?_ _ | refine blk_drew ?_ | refine blk_alloc ?_ _)); refine blk_far ?_ NB406_429.out _; (with_reducible repeat (first | refine blk_drewN ?_ _ | refine blk_drew ?_ | refine blk_alloc ?_ _)); refine blk_far ?_ NB406_429.out _; (with_reducible repeat (first | refine blk_drewN ?_ _ | refine blk_drew ?_ | refine blk_alloc ?_ _)); exact BK406.out) hb); replace BK429 := Aside0.mk (blk_below (g := gb429) (o := .cells #[.slice Ao41 t419.length co41, .slice Ao45 t422.length co45, .slice Ao46 t425.length co46] 26 (0, 0)) (by (with_reducible repeat (first | refine blk_drewN ?_ _ | refine blk_drew ?_ | refine blk_alloc ?_ _)); refine blk_put (cs := #[.slice Ao41 t419.length co41, .slice Ao45 t422.length co45, .slice none 0 0]) ?_ 2 _ rfl; (with_reducible repeat (first | refine blk_drewN ?_ _ | refine blk_drew ?_ | refine blk_alloc ?_ _)); refine blk_put (cs := #[.slice Ao41 t419.length co41, .slice none 0 0, .slice none 0 0]) ?_ 1 _ rfl; (with_reducible repeat (first | refine blk_drewN ?_ _ | refine blk_drew ?_ | refine blk_alloc ?_ _)); refine blk_put (cs := #[.slice none 0 0, .slice none 0 0, .slice none 0 0]) ?_ 0 _ rfl; (with_reducible repeat (first | refine blk_drewN ?_ _ | refine blk_drew ?_ | refine blk_alloc ?_ _)); exact BK429.out) hb); replace HB := Aside0.mk (below_step (by repeat (first | (with_reducible first | exact HB.out | apply below_alloc | apply pw_below_drewN | apply below_drew1 | refine below_set ?_ GE405.out | refine below_set ?_ GE406.out | refine below_set ?_ GE429.out) | exact HB.out)) hb); (try clear hb); (try clear hb2); (try clear hk); (try clear hi); (try clear ho0); (try clear ho1); (try clear ho2)) | ((with_reducible refine gate_dst (N := 10) rfl ?_); refine box_event ?hg (N := 10) ?hd (cs := #[.slice none 0 0, .slice none 0 0, .slice none 0 0]) (t := 26) ?hr ?_; (case hd => rfl); (case hg => rfl); (case hr => first | (go_simp; done) | (go_simp; rfl)); intro gb440 hg w50 hbox hb; have BK440 := Aside0.mk (hbox); have GW440 := Aside0.mk ((by rw [hg]; exact (below_size (by repeat (first | (with_reducible first | exact HB.out | apply below_alloc | apply pw_below_drewN | apply below_drew1 | refine below_set ?_ GE405.out | refine below_set ?_ GE406.out | refine below_set ?_ GE429.out) | exact HB.out))) : w.heap.size ≤ gb440)); have GE440 := Aside0.mk ((by rw [hg]; exact (below_size (by repeat (first | (with_reducible first | exact HB.out | apply below_alloc | apply pw_below_drewN | apply below_drew1 | refine below_set ?_ GE405.out | refine below_set ?_ GE406.out | refine below_set ?_ GE429.out) | exact HB.out))) : w.heap.size ≤ gb440)); have NB405_440 := Aside0.mk ((by rw [hg]; exact Nat.ne_of_lt (blk_lt (g := gb405) (o := .cells #[.slice Ao27 t408.length co27, .slice Ao29 t411.length co29, .slice Ao30 t414.length co30] 26 (0, 0)) (by (with_reducible repeat (first | refine blk_drewN ?_ _ | refine blk_drew ?_ | refine blk_alloc ?_ _)); exact BK405.out)) : gb405 ≠ gb440)); have NB440_405 := Aside0.mk ((by rw [hg]; exact Nat.ne_of_gt (blk_lt (g := gb405) (o := .cells #[.slice Ao27 t408.length co27, .slice Ao29 t411.length co29, .slice Ao30 t414.length co30] 26 (0, 0)) (by (with_reducible repeat (first | refine blk_drewN ?_ _ | refine blk_drew ?_ | refine blk_alloc ?_ _)); exact BK405.out)) : gb440 ≠ gb405)); have NB406_440 := Aside0.mk ((by rw [hg]; exact Nat.ne_of_lt (blk_lt (g := gb406) (o := .cells #[.string t417, .string t418] 39 (0, 0)) (by (with_reducible repeat (first | refine blk_drewN ?_ _ | refine blk_drew ?_ | refine blk_alloc ?_ _)); exact BK406.out)) : gb406 ≠ gb440)); have NB440_406 := Aside0.mk ((by rw [hg]; exact Nat.ne_of_gt (blk_lt (g := gb406) (o := .cells #[.string t417, .string t418] 39 (0, 0)) (by (with_reducible repeat (first | refine blk_drewN ?_ _ | refine blk_drew ?_ | refine blk_alloc ?_ _)); exact BK406.out)) : gb440 ≠ gb406)); have NB429_440 := Aside0.mk ((by rw [hg]; exact Nat.ne_of_lt (blk_lt (g := gb429) (o := .cells #[.slice Ao41 t419.length co41, .slice Ao45 t422.length co45, .slice Ao46 t425.length co46] 26 (0, 0)) (by (with_reducible repeat (first | refine blk_drewN ?_ _ | refine blk_drew ?_ | refine blk_alloc ?_ _)); exact BK429.out)) : gb429 ≠ gb440)); have NB440_429 := Aside0.mk ((by rw [hg]; exact Nat.ne_of_gt (blk_lt (g := gb429) (o := .cells #[.slice Ao41 t419.length co41, .slice Ao45 t422.length co45, .slice Ao46 t425.length co46] 26 (0, 0)) (by (with_reducible repeat (first | refine blk_drewN ?_ _ | refine blk_drew ?_ | refine blk_alloc ?_ _)); exact BK429.out)) : gb440 ≠ gb429)); replace HO410 := Aside0.mk (Kd.R_below (by (with_reducible repeat (first | apply Kd.R_alloc | apply Kd.R_drewN | apply Kd.R_drew)); exact HO410.out) hb); replace HO413 := Aside0.mk (Kd.R_below (by (with_reducible repeat (first | apply Kd.R_alloc | apply Kd.R_drewN | apply Kd.R_drew)); exact HO413.out) hb); replace HO416 := Aside0.mk (Kd.R_below (by (with_reducible repeat (first | apply Kd.R_alloc | apply Kd.R_drewN | apply Kd.R_drew)); exact HO416.out) hb); replace HO421 := Aside0.mk (Kd.R_below (by (with_reducible repeat (first | apply Kd.R_alloc | apply Kd.R_drewN | apply Kd.R_drew)); exact HO421.out) hb); replace HO424 := Aside0.mk (Kd.R_below (by (with_reducible repeat (first | apply Kd.R_alloc | apply Kd.R_drewN | apply Kd.R_drew)); exact HO424.out) hb); replace HO427 := Aside0.mk (Kd.R_below (by (with_reducible repeat (first | apply Kd.R_alloc | apply Kd.R_drewN | apply Kd.R_drew)); exact HO427.out) hb); replace HO432 := Aside0.mk (Kd.R_below (by (with_reducible repeat (first | apply Kd.R_alloc | apply Kd.R_drewN | apply Kd.R_drew)); exact HO432.out) hb); replace HO435 := Aside0.mk (Kd.R_below (by (with_reducible repeat (first | apply Kd.R_alloc | apply Kd.R_drewN | apply Kd.R_drew)); exact HO435.out) hb); replace HO438 := Aside0.mk (Kd.R_below (by (with_reducible repeat (first | apply Kd.R_alloc | apply Kd.R_drewN | apply Kd.R_drew)); exact HO438.out) hb); replace BK405 := Aside0.mk (blk_below (g := gb405) (o := .cells #[.slice Ao27 t408.length co27, .slice Ao29 t411.length co29, .slice Ao30 t414.length co30] 26 (0, 0)) (by (with_reducible repeat (first | refine blk_drewN ?_ _ | refine blk_drew ?_ | refine blk_alloc ?_ _)); exact BK405.out) hb); replace BK406 := Aside0.mk (blk_below (g := gb406) (o := .cells #[.string t417, .string t418] 39 (0, 0)) (by (with_reducible repeat (first | refine blk_drewN ?_ _ | refine blk_drew ?_ | refine blk_alloc ?_ _)); exact BK406.out) hb); replace BK429 := Aside0.mk (blk_below (g := gb429) (o := .cells #[.slice Ao41 t419.length co41, .slice Ao45 t422.length co45, .slice Ao46 t425.length co46] 26 (0, 0)) (by (with_reducible repeat (first | refine blk_drewN ?_ _ | refine blk_drew ?_ | refine blk_alloc ?_ _)); exact BK429.out) hb); replace HB := Aside0.mk (below_step (by repeat (first | (with_reducible first | exact HB.out | apply below_alloc | apply pw_below_drewN | apply below_drew1 | refine below_set ?_ GE405.out | refine below_set ?_ GE406.out | refine below_set ?_ GE429.out) | exact HB.out)) hb); clear hb hbox hg; obtain ⟨Ao51, co51, eo51⟩ := Kd.R_slice HO432.out; subst eo51; have hnb52 := NB440_405.out; have hnc52 := NB405_440.out; have hnb53 := NB440_406.out; have hnc53 := NB406_440.out; have hnb54 := NB440_429.out; have hnc54 := NB429_440.out; have hcz55_0 : w50.cell? ⟨gb440, 0, none⟩ = some (.slice none 0 0) := (blk_cell BK440.out 0).trans rfl; have hcz55_1 : w50.cell? ⟨gb440, 1, none⟩ = some (.slice none 0 0) := (blk_cell BK440.out 1).trans rfl; have hcz55_2 : w50.cell? ⟨gb440, 2, none⟩ = some (.slice none 0 0) := (blk_cell BK440.out 2).trans rfl; have hfz55_0 := blk_frozen BK440.out 0; have hfz55_1 := blk_frozen BK440.out 1; have hfz55_2 := blk_frozen BK440.out 2; obtain ⟨Ao56, co56, eo56⟩ := Kd.R_slice HO435.out; subst eo56; obtain ⟨Ao57, co57, eo57⟩ := Kd.R_slice HO438.out; subst eo57))
  have n0_ : Aside0 (Kd.R k39 39 (((w50.setCell ⟨gb440, 0, none⟩ (.slice Ao51 t430.length co51)).setCell ⟨gb440, 1, none⟩ (.slice Ao56 t433.length co56)).setCell ⟨gb440, 2, none⟩ (.slice Ao57 t436.length co57)) w.heap.size (fun k_ => some k_ ≠ (.slice Ao41 t419.length co41 : Value).ownBlock ∧ some k_ ≠ (.slice Ao51 t430.length co51 : Value).ownBlock ∧ k_ ≠ gb406) (.slice Ao27 t408.length co27) t408) := ⟨by (with_reducible repeat (first | apply Kd.R_alloc | apply Kd.R_drewN | apply Kd.R_drew)); exact Kd.R_mono (Kd.R_far (p := ⟨gb440, 2, none⟩) (Kd.R_far (p := ⟨gb440, 1, none⟩) (Kd.R_far (p := ⟨gb440, 0, none⟩) (Kd.R_types HO410.out BK440.out (by decide)) (fun _ hk => hk.2) (.slice Ao51 t430.length co51)) (fun _ hk => hk.2) (.slice Ao56 t433.length co56)) (fun _ hk => hk.2) (.slice Ao57 t436.length co57)) (fun _ hk => ⟨hk.1.1.2, ⟨hk.1.2, hk.1.1.1⟩⟩)⟩
  have n1_ : Aside0 (Kd.R Kd.string 9 (((w50.setCell ⟨gb440, 0, none⟩ (.slice Ao51 t430.length co51)).setCell ⟨gb440, 1, none⟩ (.slice Ao56 t433.length co56)).setCell ⟨gb440, 2, none⟩ (.slice Ao57 t436.length co57)) w.heap.size (fun k_ => some k_ ≠ (.slice Ao45 t422.length co45 : Value).ownBlock ∧ some k_ ≠ (.slice Ao56 t433.length co56 : Value).ownBlock) (.slice Ao29 t411.length co29) t411) := ⟨by (with_reducible repeat (first | apply Kd.R_alloc | apply Kd.R_drewN | apply Kd.R_drew)); exact Kd.R_mono (Kd.R_far (p := ⟨gb440, 2, none⟩) (Kd.R_far (p := ⟨gb440, 1, none⟩) (Kd.R_far (p := ⟨gb440, 0, none⟩) (Kd.R_types HO413.out BK440.out (by decide)) (fun _ hk => hk.2) (.slice Ao51 t430.length co51)) (fun _ hk => hk.2) (.slice Ao56 t433.length co56)) (fun _ hk => hk.2) (.slice Ao57 t436.length co57)) (fun _ hk => ⟨hk.1.1.2, hk.1.2⟩)⟩
  have n2_ : Aside0 (Kd.R (Kd.int .u32) 65 (((w50.setCell ⟨gb440, 0, none⟩ (.slice Ao51 t430.length co51)).setCell ⟨gb440, 1, none⟩ (.slice Ao56 t433.length co56)).setCell ⟨gb440, 2, none⟩ (.slice Ao57 t436.length co57)) w.heap.size (fun k_ => some k_ ≠ (.slice Ao46 t425.length co46 : Value).ownBlock ∧ some k_ ≠ (.slice Ao57 t436.length co57 : Value).ownBlock) (.slice Ao30 t414.length co30) t414) := ⟨by (with_reducible repeat (first | apply Kd.R_alloc | apply Kd.R_drewN | apply Kd.R_drew)); exact Kd.R_mono (Kd.R_far (p := ⟨gb440, 2, none⟩) (Kd.R_far (p := ⟨gb440, 1, none⟩) (Kd.R_far (p := ⟨gb440, 0, none⟩) (Kd.R_types HO416.out BK440.out (by decide)) (fun _ hk => hk.2) (.slice Ao51 t430.length co51)) (fun _ hk => hk.2) (.slice Ao56 t433.length co56)) (fun _ hk => hk.2) (.slice Ao57 t436.length co57)) (fun _ hk => ⟨hk.1.1.2, hk.1.2⟩)⟩
  have n3_ : Aside0 (Kd.R k39 39 (((w50.setCell ⟨gb440, 0, none⟩ (.slice Ao51 t430.length co51)).setCell ⟨gb440, 1, none⟩ (.slice Ao56 t433.length co56)).setCell ⟨gb440, 2, none⟩ (.slice Ao57 t436.length co57)) w.heap.size (fun k_ => some k_ ≠ (.slice Ao27 t408.length co27 : Value).ownBlock ∧ some k_ ≠ (.slice Ao51 t430.length co51 : Value).ownBlock ∧ k_ ≠ gb406) (.slice Ao41 t419.length co41) t419) := ⟨by (with_reducible repeat (first | apply Kd.R_alloc | apply Kd.R_drewN | apply Kd.R_drew)); exact Kd.R_mono (Kd.R_far (p := ⟨gb440, 2, none⟩) (Kd.R_far (p := ⟨gb440, 1, none⟩) (Kd.R_far (p := ⟨gb440, 0, none⟩) (Kd.R_types HO421.out BK440.out (by decide)) (fun _ hk => hk.2) (.slice Ao51 t430.length co51)) (fun _ hk => hk.2) (.slice Ao56 t433.length co56)) (fun _ hk => hk.2) (.slice Ao57 t436.length co57)) (fun _ hk => ⟨hk.1.1.1.2, ⟨hk.1.2, hk.1.1.2⟩⟩)⟩
  have n4_ : Aside0 (Kd.R Kd.string 9 (((w50.setCell ⟨gb440, 0, none⟩ (.slice Ao51 t430.length co51)).setCell ⟨gb440, 1, none⟩ (.slice Ao56 t433.length co56)).setCell ⟨gb440, 2, none⟩ (.slice Ao57 t436.length co57)) w.heap.size (fun k_ => some k_ ≠ (.slice Ao29 t411.length co29 : Value).ownBlock ∧ some k_ ≠ (.slice Ao56 t433.length co56 : Value).ownBlock) (.slice Ao45 t422.length co45) t422) := ⟨by (with_reducible repeat (first | apply Kd.R_alloc | apply Kd.R_drewN | apply Kd.R_drew)); exact Kd.R_mono (Kd.R_far (p := ⟨gb440, 2, none⟩) (Kd.R_far (p := ⟨gb440, 1, none⟩) (Kd.R_far (p := ⟨gb440, 0, none⟩) (Kd.R_types HO424.out BK440.out (by decide)) (fun _ hk => hk.2) (.slice Ao51 t430.length co51)) (fun _ hk => hk.2) (.slice Ao56 t433.length co56)) (fun _ hk => hk.2) (.slice Ao57 t436.length co57)) (fun _ hk => ⟨hk.1.1.2, hk.1.2⟩)⟩
  have n5_ : Aside0 (Kd.R (Kd.int .u32) 65 (((w50.setCell ⟨gb440, 0, none⟩ (.slice Ao51 t430.length co51)).setCell ⟨gb440, 1, none⟩ (.slice Ao56 t433.length co56)).setCell ⟨gb440, 2, none⟩ (.slice Ao57 t436.length co57)) w.heap.size (fun k_ => some k_ ≠ (.slice Ao30 t414.length co30 : Value).ownBlock ∧ some k_ ≠ (.slice Ao57 t436.length co57 : Value).ownBlock) (.slice Ao46 t425.length co46) t425) := ⟨by (with_reducible repeat (first | apply Kd.R_alloc | apply Kd.R_drewN | apply Kd.R_drew)); exact Kd.R_mono (Kd.R_far (p := ⟨gb440, 2, none⟩) (Kd.R_far (p := ⟨gb440, 1, none⟩) (Kd.R_far (p := ⟨gb440, 0, none⟩) (Kd.R_types HO427.out BK440.out (by decide)) (fun _ hk => hk.2) (.slice Ao51 t430.length co51)) (fun _ hk => hk.2) (.slice Ao56 t433.length co56)) (fun _ hk => hk.2) (.slice Ao57 t436.length co57)) (fun _ hk => ⟨hk.1.1.2, hk.1.2⟩)⟩
  have n6_ : Aside0 (Kd.R k39 39 (((w50.setCell ⟨gb440, 0, none⟩ (.slice Ao51 t430.length co51)).setCell ⟨gb440, 1, none⟩ (.slice Ao56 t433.length co56)).setCell ⟨gb440, 2, none⟩ (.slice Ao57 t436.length co57)) w.heap.size (fun k_ => some k_ ≠ (.slice Ao27 t408.length co27 : Value).ownBlock ∧ some k_ ≠ (.slice Ao41 t419.length co41 : Value).ownBlock ∧ k_ ≠ gb406) (.slice Ao51 t430.length co51) t430) := ⟨by (with_reducible repeat (first | apply Kd.R_alloc | apply Kd.R_drewN | apply Kd.R_drew)); exact Kd.R_mono (Kd.R_far (p := ⟨gb440, 2, none⟩) (Kd.R_far (p := ⟨gb440, 1, none⟩) (Kd.R_far (p := ⟨gb440, 0, none⟩) (Kd.R_types HO432.out BK440.out (by decide)) (fun _ hk => hk.2) (.slice Ao51 t430.length co51)) (fun _ hk => hk.2) (.slice Ao56 t433.length co56)) (fun _ hk => hk.2) (.slice Ao57 t436.length co57)) (fun _ hk => ⟨hk.1.1.1.2, ⟨hk.1.1.2, hk.1.2⟩⟩)⟩
  have n7_ : Aside0 (Kd.R Kd.string 9 (((w50.setCell ⟨gb440, 0, none⟩ (.slice Ao51 t430.length co51)).setCell ⟨gb440, 1, none⟩ (.slice Ao56 t433.length co56)).setCell ⟨gb440, 2, none⟩ (.slice Ao57 t436.length co57)) w.heap.size (fun k_ => some k_ ≠ (.slice Ao29 t411.length co29 : Value).ownBlock ∧ some k_ ≠ (.slice Ao45 t422.length co45 : Value).ownBlock) (.slice Ao56 t433.length co56) t433) := ⟨by (with_reducible repeat (first | apply Kd.R_alloc | apply Kd.R_drewN | apply Kd.R_drew)); exact Kd.R_mono (Kd.R_far (p := ⟨gb440, 2, none⟩) (Kd.R_far (p := ⟨gb440, 1, none⟩) (Kd.R_far (p := ⟨gb440, 0, none⟩) (Kd.R_types HO435.out BK440.out (by decide)) (fun _ hk => hk.2) (.slice Ao51 t430.length co51)) (fun _ hk => hk.2) (.slice Ao56 t433.length co56)) (fun _ hk => hk.2) (.slice Ao57 t436.length co57)) (fun _ hk => ⟨hk.1.1.2, hk.1.2⟩)⟩
  have n8_ : Aside0 (Kd.R (Kd.int .u32) 65 (((w50.setCell ⟨gb440, 0, none⟩ (.slice Ao51 t430.length co51)).setCell ⟨gb440, 1, none⟩ (.slice Ao56 t433.length co56)).setCell ⟨gb440, 2, none⟩ (.slice Ao57 t436.length co57)) w.heap.size (fun k_ => some k_ ≠ (.slice Ao30 t414.length co30 : Value).ownBlock ∧ some k_ ≠ (.slice Ao46 t425.length co46 : Value).ownBlock) (.slice Ao57 t436.length co57) t436) := ⟨by (with_reducible repeat (first | apply Kd.R_alloc | apply Kd.R_drewN | apply Kd.R_drew)); exact Kd.R_mono (Kd.R_far (p := ⟨gb440, 2, none⟩) (Kd.R_far (p := ⟨gb440, 1, none⟩) (Kd.R_far (p := ⟨gb440, 0, none⟩) (Kd.R_types HO438.out BK440.out (by decide)) (fun _ hk => hk.2) (.slice Ao51 t430.length co51)) (fun _ hk => hk.2) (.slice Ao56 t433.length co56)) (fun _ hk => hk.2) (.slice Ao57 t436.length co57)) (fun _ hk => ⟨hk.1.1.2, hk.1.2⟩)⟩
  have n9_ : Aside0 ((((w50.setCell ⟨gb440, 0, none⟩ (.slice Ao51 t430.length co51)).setCell ⟨gb440, 1, none⟩ (.slice Ao56 t433.length co56)).setCell ⟨gb440, 2, none⟩ (.slice Ao57 t436.length co57)).heap[gb405]? = some (.cells #[.slice Ao27 t408.length co27, .slice Ao29 t411.length co29, .slice Ao30 t414.length co30] 26 (0, 0))) := ⟨by (with_reducible repeat (first | refine blk_drewN ?_ _ | refine blk_drew ?_ | refine blk_alloc ?_ _)); refine blk_far ?_ NB405_440.out _; (with_reducible repeat (first | refine blk_drewN ?_ _ | refine blk_drew ?_ | refine blk_alloc ?_ _)); refine blk_far ?_ NB405_440.out _; (with_reducible repeat (first | refine blk_drewN ?_ _ | refine blk_drew ?_ | refine blk_alloc ?_ _)); refine blk_far ?_ NB405_440.out _; (with_reducible repeat (first | refine blk_drewN ?_ _ | refine blk_drew ?_ | refine blk_alloc ?_ _)); exact BK405.out⟩
  have n10_ : Aside0 ((((w50.setCell ⟨gb440, 0, none⟩ (.slice Ao51 t430.length co51)).setCell ⟨gb440, 1, none⟩ (.slice Ao56 t433.length co56)).setCell ⟨gb440, 2, none⟩ (.slice Ao57 t436.length co57)).heap[gb406]? = some (.cells #[.string t417, .string t418] 39 (0, 0))) := ⟨by (with_reducible repeat (first | refine blk_drewN ?_ _ | refine blk_drew ?_ | refine blk_alloc ?_ _)); refine blk_far ?_ NB406_440.out _; (with_reducible repeat (first | refine blk_drewN ?_ _ | refine blk_drew ?_ | refine blk_alloc ?_ _)); refine blk_far ?_ NB406_440.out _; (with_reducible repeat (first | refine blk_drewN ?_ _ | refine blk_drew ?_ | refine blk_alloc ?_ _)); refine blk_far ?_ NB406_440.out _; (with_reducible repeat (first | refine blk_drewN ?_ _ | refine blk_drew ?_ | refine blk_alloc ?_ _)); exact BK406.out⟩
  have n11_ : Aside0 ((((w50.setCell ⟨gb440, 0, none⟩ (.slice Ao51 t430.length co51)).setCell ⟨gb440, 1, none⟩ (.slice Ao56 t433.length co56)).setCell ⟨gb440, 2, none⟩ (.slice Ao57 t436.length co57)).heap[gb429]? = some (.cells #[.slice Ao41 t419.length co41, .slice Ao45 t422.length co45, .slice Ao46 t425.length co46] 26 (0, 0))) := ⟨by (with_reducible repeat (first | refine blk_drewN ?_ _ | refine blk_drew ?_ | refine blk_alloc ?_ _)); refine blk_far ?_ NB429_440.out _; (with_reducible repeat (first | refine blk_drewN ?_ _ | refine blk_drew ?_ | refine blk_alloc ?_ _)); refine blk_far ?_ NB429_440.out _; (with_reducible repeat (first | refine blk_drewN ?_ _ | refine blk_drew ?_ | refine blk_alloc ?_ _)); refine blk_far ?_ NB429_440.out _; (with_reducible repeat (first | refine blk_drewN ?_ _ | refine blk_drew ?_ | refine blk_alloc ?_ _)); exact BK429.out⟩
  have n12_ : Aside0 ((((w50.setCell ⟨gb440, 0, none⟩ (.slice Ao51 t430.length co51)).setCell ⟨gb440, 1, none⟩ (.slice Ao56 t433.length co56)).setCell ⟨gb440, 2, none⟩ (.slice Ao57 t436.length co57)).heap[gb440]? = some (.cells #[.slice Ao51 t430.length co51, .slice Ao56 t433.length co56, .slice Ao57 t436.length co57] 26 (0, 0))) := ⟨by (with_reducible repeat (first | refine blk_drewN ?_ _ | refine blk_drew ?_ | refine blk_alloc ?_ _)); refine blk_put (cs := #[.slice Ao51 t430.length co51, .slice Ao56 t433.length co56, .slice none 0 0]) ?_ 2 _ rfl; (with_reducible repeat (first | refine blk_drewN ?_ _ | refine blk_drew ?_ | refine blk_alloc ?_ _)); refine blk_put (cs := #[.slice Ao51 t430.length co51, .slice none 0 0, .slice none 0 0]) ?_ 1 _ rfl; (with_reducible repeat (first | refine blk_drewN ?_ _ | refine blk_drew ?_ | refine blk_alloc ?_ _)); refine blk_put (cs := #[.slice none 0 0, .slice none 0 0, .slice none 0 0]) ?_ 0 _ rfl; (with_reducible repeat (first | refine blk_drewN ?_ _ | refine blk_drew ?_ | refine blk_alloc ?_ _)); exact BK440.out⟩
  have n13_ : Aside0 (Below w.heap.size w (((w50.setCell ⟨gb440, 0, none⟩ (.slice Ao51 t430.length co51)).setCell ⟨gb440, 1, none⟩ (.slice Ao56 t433.length co56)).setCell ⟨gb440, 2, none⟩ (.slice Ao57 t436.length co57))) := ⟨by repeat (first | (with_reducible first | exact HB.out | apply below_alloc | apply pw_below_drewN | apply below_drew1 | refine below_set ?_ GE405.out | refine below_set ?_ GE406.out | refine below_set ?_ GE429.out | refine below_set ?_ GE440.out) | exact HB.out)⟩
  (try clear HO410)
  (try clear HO413)
  (try clear HO416)
  (try clear HO421)
  (try clear HO424)
  (try clear HO427)
  (try clear HO432)
  (try clear HO435)
  (try clear HO438)
  (try clear BK405)
  (try clear BK406)
  (try clear BK429)
  (try clear BK440)
  (try clear HB)
  generalize (((w50.setCell ⟨gb440, 0, none⟩ (.slice Ao51 t430.length co51)).setCell ⟨gb440, 1, none⟩ (.slice Ao56 t433.length co56)).setCell ⟨gb440, 2, none⟩ (.slice Ao57 t436.length co57)) = w58 at n0_ n1_ n2_ n3_ n4_ n5_ n6_ n7_ n8_ n9_ n10_ n11_ n12_ n13_ ⊢
  have HO410 := n0_
  have HO413 := n1_
  have HO416 := n2_
  have HO421 := n3_
  have HO424 := n4_
  have HO427 := n5_
  have HO432 := n6_
  have HO435 := n7_
  have HO438 := n8_
  have BK405 := n9_
  have BK406 := n10_
  have BK429 := n11_
  have BK440 := n12_
  have HB := n13_
  clear n0_ n1_ n2_ n3_ n4_ n5_ n6_ n7_ n8_ n9_ n10_ n11_ n12_ n13_
  replace HO410 := Aside0.mk (Kd.R_drew HO410.out)
  replace HO413 := Aside0.mk (Kd.R_drew HO413.out)
  replace HO416 := Aside0.mk (Kd.R_drew HO416.out)
  replace HO421 := Aside0.mk (Kd.R_drew HO421.out)
  replace HO424 := Aside0.mk (Kd.R_drew HO424.out)
  replace HO427 := Aside0.mk (Kd.R_drew HO427.out)
  replace HO432 := Aside0.mk (Kd.R_drew HO432.out)
  replace HO435 := Aside0.mk (Kd.R_drew HO435.out)
  replace HO438 := Aside0.mk (Kd.R_drew HO438.out)
  replace BK405 := Aside0.mk (blk_drew BK405.out)
  replace BK406 := Aside0.mk (blk_drew BK406.out)
  replace BK429 := Aside0.mk (blk_drew BK429.out)
  replace BK440 := Aside0.mk (blk_drew BK440.out)
  replace HB := Aside0.mk (below_drew1 HB.out)
  refine start_ (n := 12) (S := fun w' => w'.cell? ⟨gb405, 0, none⟩ = some (.slice Ao27 t408.length co27) ∧ w'.cell? ⟨gb405, 1, none⟩ = some (.slice Ao29 t411.length co29) ∧ w'.cell? ⟨gb405, 2, none⟩ = some (.slice Ao30 t414.length co30)) (ds := []) #[false, false, false, false, false, false, false, false, false, false, false, false] (by kernel_rfl) rfl rfl ⟨(blk_cell BK405.out 0).trans rfl, (blk_cell BK405.out 1).trans rfl, (blk_cell BK405.out 2).trans rfl⟩ (fun hHeld => ?_); refine with_tabW bazaarlaw06_NodePuts.tab6 bazaarlaw06_NodePuts.bits6 (fun HT_ HW_ => ?_)
  generalize w58.drew = w59 at HO410 HO413 HO416 HO421 HO424 HO427 HO432 HO435 HO438 BK405 BK406 BK429 BK440 HB hHeld ⊢
  refine pure_ (i := 1) (N := some 42) (v := ?_) (a' := ?_) #[false, true, false, false, false, false, false, false, false, false, false, false] rfl rfl (any_of HT_.out (by kernel_rfl)) (fun _ _ _ h => h) (Or.inl ⟨by rfl, ?_⟩) ?_ ?_
  rotate_left
  · intro w'
    go_simp
    with_reducible rfl
  rotate_left
  · simp only [Act.put, List.setIfInBounds_toArray, List.set_cons_zero, List.set_cons_succ, i64_w, i32_w]
    rfl
  refine take_ (i := 0) (N := some 41) (v := ?_) (a' := ?_) #[true, true, false, false, false, false, false, false, false, false, false, false] rfl rfl (take_ofW HT_.out HW_.out (by kernel_rfl)) (fun _ _ _ h => h) (Or.inl ⟨by rfl, ?_⟩) hHeld ?_ ?_
  rotate_left
  · rintro w' ⟨s0, s1, s2⟩
    go_simp
    with_reducible rfl
  rotate_left
  · simp only [Act.put, List.setIfInBounds_toArray, List.set_cons_zero, List.set_cons_succ, i64_w, i32_w]
    rfl
  refine join_ (σ := Value × Value × Value × Nat) 3 #[true, true, true, true, true, true, true, true, true, false, false, false] (fun s_ => [(43, .string t441), (44, .tuple #[.agg #[s_.1, s_.2.1, s_.2.2.1], .bool t451, .int .i64 t452]), (12, .pointer (some ⟨s_.2.2.2, 0, none⟩)), (40, .tuple #[.agg #[s_.1, s_.2.1, s_.2.2.1], .bool t451, .int .i64 t452]), (45, .agg #[s_.1, s_.2.1, s_.2.2.1]), (46, .bool t451), (47, .int .i64 t452)]) (fun s_ w' => (w'.cell? ⟨gb405, 0, none⟩ = some (.slice Ao27 t408.length co27) ∧ w'.cell? ⟨gb405, 1, none⟩ = some (.slice Ao29 t411.length co29) ∧ w'.cell? ⟨gb405, 2, none⟩ = some (.slice Ao30 t414.length co30)) ∧ (Kd.R k39 39 w' w.heap.size (fun k_ => some k_ ≠ (.slice Ao41 t419.length co41 : Value).ownBlock ∧ some k_ ≠ (.slice Ao51 t430.length co51 : Value).ownBlock ∧ some k_ ≠ (s_.1 : Value).ownBlock ∧ k_ ≠ gb406) (.slice Ao27 t408.length co27) t408) ∧ (Kd.R Kd.string 9 w' w.heap.size (fun k_ => some k_ ≠ (.slice Ao45 t422.length co45 : Value).ownBlock ∧ some k_ ≠ (.slice Ao56 t433.length co56 : Value).ownBlock ∧ some k_ ≠ (s_.2.1 : Value).ownBlock) (.slice Ao29 t411.length co29) t411) ∧ (Kd.R (Kd.int .u32) 65 w' w.heap.size (fun k_ => some k_ ≠ (.slice Ao46 t425.length co46 : Value).ownBlock ∧ some k_ ≠ (.slice Ao57 t436.length co57 : Value).ownBlock ∧ some k_ ≠ (s_.2.2.1 : Value).ownBlock) (.slice Ao30 t414.length co30) t414) ∧ (Kd.R k39 39 w' w.heap.size (fun k_ => some k_ ≠ (.slice Ao27 t408.length co27 : Value).ownBlock ∧ some k_ ≠ (.slice Ao51 t430.length co51 : Value).ownBlock ∧ some k_ ≠ (s_.1 : Value).ownBlock ∧ k_ ≠ gb406) (.slice Ao41 t419.length co41) t419) ∧ (Kd.R Kd.string 9 w' w.heap.size (fun k_ => some k_ ≠ (.slice Ao29 t411.length co29 : Value).ownBlock ∧ some k_ ≠ (.slice Ao56 t433.length co56 : Value).ownBlock ∧ some k_ ≠ (s_.2.1 : Value).ownBlock) (.slice Ao45 t422.length co45) t422) ∧ (Kd.R (Kd.int .u32) 65 w' w.heap.size (fun k_ => some k_ ≠ (.slice Ao30 t414.length co30 : Value).ownBlock ∧ some k_ ≠ (.slice Ao57 t436.length co57 : Value).ownBlock ∧ some k_ ≠ (s_.2.2.1 : Value).ownBlock) (.slice Ao46 t425.length co46) t425) ∧ (Kd.R k39 39 w' w.heap.size (fun k_ => some k_ ≠ (.slice Ao27 t408.length co27 : Value).ownBlock ∧ some k_ ≠ (.slice Ao41 t419.length co41 : Value).ownBlock ∧ some k_ ≠ (s_.1 : Value).ownBlock ∧ k_ ≠ gb406) (.slice Ao51 t430.length co51) t430) ∧ (Kd.R Kd.string 9 w' w.heap.size (fun k_ => some k_ ≠ (.slice Ao29 t411.length co29 : Value).ownBlock ∧ some k_ ≠ (.slice Ao45 t422.length co45 : Value).ownBlock ∧ some k_ ≠ (s_.2.1 : Value).ownBlock) (.slice Ao56 t433.length co56) t433) ∧ (Kd.R (Kd.int .u32) 65 w' w.heap.size (fun k_ => some k_ ≠ (.slice Ao30 t414.length co30 : Value).ownBlock ∧ some k_ ≠ (.slice Ao46 t425.length co46 : Value).ownBlock ∧ some k_ ≠ (s_.2.2.1 : Value).ownBlock) (.slice Ao57 t436.length co57) t436) ∧ (Kd.R k39 39 w' w.heap.size (fun k_ => some k_ ≠ (.slice Ao27 t408.length co27 : Value).ownBlock ∧ some k_ ≠ (.slice Ao41 t419.length co41 : Value).ownBlock ∧ some k_ ≠ (.slice Ao51 t430.length co51 : Value).ownBlock ∧ k_ ≠ gb406) s_.1 t442) ∧ (Kd.R Kd.string 9 w' w.heap.size (fun k_ => some k_ ≠ (.slice Ao29 t411.length co29 : Value).ownBlock ∧ some k_ ≠ (.slice Ao45 t422.length co45 : Value).ownBlock ∧ some k_ ≠ (.slice Ao56 t433.length co56 : Value).ownBlock) s_.2.1 t445) ∧ (Kd.R (Kd.int .u32) 65 w' w.heap.size (fun k_ => some k_ ≠ (.slice Ao30 t414.length co30 : Value).ownBlock ∧ some k_ ≠ (.slice Ao46 t425.length co46 : Value).ownBlock ∧ some k_ ≠ (.slice Ao57 t436.length co57 : Value).ownBlock) s_.2.2.1 t448) ∧ (w'.heap[gb405]? = some (.cells #[.slice Ao27 t408.length co27, .slice Ao29 t411.length co29, .slice Ao30 t414.length co30] 26 (0, 0))) ∧ (w'.heap[gb406]? = some (.cells #[.string t417, .string t418] 39 (0, 0))) ∧ (w'.heap[gb429]? = some (.cells #[.slice Ao41 t419.length co41, .slice Ao45 t422.length co45, .slice Ao46 t425.length co46] 26 (0, 0))) ∧ (w'.heap[gb440]? = some (.cells #[.slice Ao51 t430.length co51, .slice Ao56 t433.length co56, .slice Ao57 t436.length co57] 26 (0, 0))) ∧ (w'.heap[s_.2.2.2]? = some (.cells #[.slice none 0 0, .slice none 0 0, .slice none 0 0] 26 (0, 0))) ∧ (w.heap.size ≤ s_.2.2.2) ∧ (w.heap.size ≤ s_.2.2.2) ∧ (gb405 ≠ s_.2.2.2) ∧ (s_.2.2.2 ≠ gb405) ∧ (gb406 ≠ s_.2.2.2) ∧ (s_.2.2.2 ≠ gb406) ∧ (gb429 ≠ s_.2.2.2) ∧ (s_.2.2.2 ≠ gb429) ∧ (gb440 ≠ s_.2.2.2) ∧ (s_.2.2.2 ≠ gb440) ∧ (Below w.heap.size w w')) ?_ ?_
  rotate_left
  · intro hCont
    refine two_ (i := 2) (j := 8) (Ni := some 43) (Nj := some 12) #[true, true, true, false, false, false, false, false, false, false, false, false] #[true, true, false, false, false, false, false, false, true, false, false, false] rfl rfl rfl rfl (two_of HT_.out (by kernel_rfl)) (by decide) (by decide) (fun K hK => ?_) (fun K hK => ?_)
    · skip
      refine goes_ Try.func19 (by kernel_rfl) rfl #[.string a2] (by rfl) rfl rfl (by (try simp only [List.map_toArray, List.map_cons, List.map_nil]); first | done | rfl | (simp only [List.length_drop, List.length_take]; rfl)) ?_
      with_reducible refine (bazaarlaw06_text.calls a2 t441 _ A10.out).mono ?_
      rintro e w60 ⟨rfl, hb⟩
      refine ⟨_, rfl, ?_⟩
      replace HO410 := Aside0.mk (Kd.R_below (R_ HO410.out) hb)
      replace HO413 := Aside0.mk (Kd.R_below (R_ HO413.out) hb)
      replace HO416 := Aside0.mk (Kd.R_below (R_ HO416.out) hb)
      replace HO421 := Aside0.mk (Kd.R_below (R_ HO421.out) hb)
      replace HO424 := Aside0.mk (Kd.R_below (R_ HO424.out) hb)
      replace HO427 := Aside0.mk (Kd.R_below (R_ HO427.out) hb)
      replace HO432 := Aside0.mk (Kd.R_below (R_ HO432.out) hb)
      replace HO435 := Aside0.mk (Kd.R_below (R_ HO435.out) hb)
      replace HO438 := Aside0.mk (Kd.R_below (R_ HO438.out) hb)
      replace BK405 := Aside0.mk (blk_below (g := gb405) (o := .cells #[.slice Ao27 t408.length co27, .slice Ao29 t411.length co29, .slice Ao30 t414.length co30] 26 (0, 0)) (B_ BK405.out) hb)
      replace BK406 := Aside0.mk (blk_below (g := gb406) (o := .cells #[.string t417, .string t418] 39 (0, 0)) (B_ BK406.out) hb)
      replace BK429 := Aside0.mk (blk_below (g := gb429) (o := .cells #[.slice Ao41 t419.length co41, .slice Ao45 t422.length co45, .slice Ao46 t425.length co46] 26 (0, 0)) (B_ BK429.out) hb)
      replace BK440 := Aside0.mk (blk_below (g := gb440) (o := .cells #[.slice Ao51 t430.length co51, .slice Ao56 t433.length co56, .slice Ao57 t436.length co57] 26 (0, 0)) (B_ BK440.out) hb)
      replace HB := Aside0.mk (below_step (L_ HB.out) hb)
      (try clear hb)
      (try clear hb2)
      (try clear hk)
      (try clear hi)
      refine hK.out _ _ ⟨(blk_cell BK405.out 0).trans rfl, (blk_cell BK405.out 1).trans rfl, (blk_cell BK405.out 2).trans rfl⟩ (fun hHeld => ?_)
      clear hK K
      refine norm_ (a' := ?_) ?_ ?_
      rotate_left
      · show Act.put _ (some 43) _ = _
        simp only [Act.put, List.setIfInBounds_toArray, List.set_cons_zero, List.set_cons_succ, i64_w, i32_w]
        rfl
      refine two_ (i := 3) (j := 8) (Ni := some 44) (Nj := some 12) #[true, true, true, true, false, false, false, false, false, false, false, false] #[true, true, true, false, false, false, false, false, true, false, false, false] rfl rfl rfl rfl (two_of HT_.out (by kernel_rfl)) (by decide) (by decide) (fun K hK => ?_) (fun K hK => ?_)
      · skip
        refine goes_ Try.func24 (by kernel_rfl) rfl #[.agg #[.slice Ao27 t408.length co27, .slice Ao29 t411.length co29, .slice Ao30 t414.length co30], .string t441] (by rfl) rfl rfl (by (try simp only [List.map_toArray, List.map_cons, List.map_nil]); first | done | rfl | (simp only [List.length_drop, List.length_take]; rfl)) ?_
        with_reducible refine (node_Delete.calls _ _ t408 _ _ t411 _ _ t414 t441 t442 t445 t448 t451 t452 _ ?side1 ?side2 ?side3 ?side4 ?side5 ?side6 A11.out).mono ?_
        (case side1 => repeat (first | exact (Kd.R_reads' HO410.out).2.2 | (with_reducible refine Kd.C_alloc ?_ _) | (with_reducible refine Kd.C_drewN ?_ _) | (with_reducible refine Kd.C_drew ?_)))
        (case side2 => exact (Kd.R_reads' HO410.out).2.1)
        (case side3 => repeat (first | exact (Kd.R_reads' HO413.out).2.2 | (with_reducible refine Kd.C_alloc ?_ _) | (with_reducible refine Kd.C_drewN ?_ _) | (with_reducible refine Kd.C_drew ?_)))
        (case side4 => exact (Kd.R_reads' HO413.out).2.1)
        (case side5 => repeat (first | exact (Kd.R_reads' HO416.out).2.2 | (with_reducible refine Kd.C_alloc ?_ _) | (with_reducible refine Kd.C_drewN ?_ _) | (with_reducible refine Kd.C_drew ?_)))
        (case side6 => exact (Kd.R_reads' HO416.out).2.1)
        rintro e w61 ⟨v443, v446, v449, rfl, ho0, ho1, ho2, hb⟩
        refine ⟨_, rfl, ?_⟩
        have HO444 := Aside0.mk (Kd.R_lower (Kd.R_newB (Kd.R_new' (Kd.R_new' (Kd.R_new' ho0 (Kd.R_lt (R_ HO410.out))) (Kd.R_lt (R_ HO421.out))) (Kd.R_lt (R_ HO432.out))) (g := gb406) (o := .cells #[.string t417, .string t418] 39 (0, 0)) (B_ BK406.out)) (below_size (L_ HB.out)))
        have HO447 := Aside0.mk (Kd.R_lower (Kd.R_new' (Kd.R_new' (Kd.R_new' ho1 (Kd.R_lt (R_ HO413.out))) (Kd.R_lt (R_ HO424.out))) (Kd.R_lt (R_ HO435.out))) (below_size (L_ HB.out)))
        have HO450 := Aside0.mk (Kd.R_lower (Kd.R_new' (Kd.R_new' (Kd.R_new' ho2 (Kd.R_lt (R_ HO416.out))) (Kd.R_lt (R_ HO427.out))) (Kd.R_lt (R_ HO438.out))) (below_size (L_ HB.out)))
        replace HO410 := Aside0.mk (Kd.R_elder' (R_ HO410.out) (Kd.R_base ho0) hb)
        replace HO413 := Aside0.mk (Kd.R_elder' (R_ HO413.out) (Kd.R_base ho1) hb)
        replace HO416 := Aside0.mk (Kd.R_elder' (R_ HO416.out) (Kd.R_base ho2) hb)
        replace HO421 := Aside0.mk (Kd.R_elder' (R_ HO421.out) (Kd.R_base ho0) hb)
        replace HO424 := Aside0.mk (Kd.R_elder' (R_ HO424.out) (Kd.R_base ho1) hb)
        replace HO427 := Aside0.mk (Kd.R_elder' (R_ HO427.out) (Kd.R_base ho2) hb)
        replace HO432 := Aside0.mk (Kd.R_elder' (R_ HO432.out) (Kd.R_base ho0) hb)
        replace HO435 := Aside0.mk (Kd.R_elder' (R_ HO435.out) (Kd.R_base ho1) hb)
        replace HO438 := Aside0.mk (Kd.R_elder' (R_ HO438.out) (Kd.R_base ho2) hb)
        replace BK405 := Aside0.mk (blk_below (g := gb405) (o := .cells #[.slice Ao27 t408.length co27, .slice Ao29 t411.length co29, .slice Ao30 t414.length co30] 26 (0, 0)) (B_ BK405.out) hb)
        replace BK406 := Aside0.mk (blk_below (g := gb406) (o := .cells #[.string t417, .string t418] 39 (0, 0)) (B_ BK406.out) hb)
        replace BK429 := Aside0.mk (blk_below (g := gb429) (o := .cells #[.slice Ao41 t419.length co41, .slice Ao45 t422.length co45, .slice Ao46 t425.length co46] 26 (0, 0)) (B_ BK429.out) hb)
        replace BK440 := Aside0.mk (blk_below (g := gb440) (o := .cells #[.slice Ao51 t430.length co51, .slice Ao56 t433.length co56, .slice Ao57 t436.length co57] 26 (0, 0)) (B_ BK440.out) hb)
        replace HB := Aside0.mk (below_step (L_ HB.out) hb)
        (try clear hb)
        (try clear hb2)
        (try clear hk)
        (try clear hi)
        (try clear ho0)
        (try clear ho1)
        (try clear ho2)
        refine hK.out _ _ ⟨(blk_cell BK405.out 0).trans rfl, (blk_cell BK405.out 1).trans rfl, (blk_cell BK405.out 2).trans rfl⟩ (fun hHeld => ?_)
        clear hK K
        refine norm_ (a' := ?_) ?_ ?_
        rotate_left
        · show Act.put _ (some 44) _ = _
          simp only [Act.put, List.setIfInBounds_toArray, List.set_cons_zero, List.set_cons_succ, i64_w, i32_w]
          rfl
        refine pure_ (i := 4) (N := some 40) (v := ?_) (a' := ?_) #[true, true, true, true, true, false, false, false, false, false, false, false] rfl rfl (any_of HT_.out (by kernel_rfl)) (fun _ _ _ h => h) (Or.inl ⟨by rfl, ?_⟩) ?_ ?_
        rotate_left
        · intro w'
          go_simp
          with_reducible rfl
        rotate_left
        · simp only [Act.put, List.setIfInBounds_toArray, List.set_cons_zero, List.set_cons_succ, i64_w, i32_w]
          rfl
        refine pure_ (i := 5) (N := some 45) (v := ?_) (a' := ?_) #[true, true, true, true, true, true, false, false, false, false, false, false] rfl rfl (any_of HT_.out (by kernel_rfl)) (fun _ _ _ h => h) (Or.inl ⟨by rfl, ?_⟩) ?_ ?_
        rotate_left
        · intro w'
          go_simp
          with_reducible rfl
        rotate_left
        · simp only [Act.put, List.setIfInBounds_toArray, List.set_cons_zero, List.set_cons_succ, i64_w, i32_w]
          rfl
        refine pure_ (i := 6) (N := some 46) (v := ?_) (a' := ?_) #[true, true, true, true, true, true, true, false, false, false, false, false] rfl rfl (any_of HT_.out (by kernel_rfl)) (fun _ _ _ h => h) (Or.inl ⟨by rfl, ?_⟩) ?_ ?_
        rotate_left
        · intro w'
          go_simp
          with_reducible rfl
        rotate_left
        · simp only [Act.put, List.setIfInBounds_toArray, List.set_cons_zero, List.set_cons_succ, i64_w, i32_w]
          rfl
        refine pure_ (i := 7) (N := some 47) (v := ?_) (a' := ?_) #[true, true, true, true, true, true, true, true, false, false, false, false] rfl rfl (any_of HT_.out (by kernel_rfl)) (fun _ _ _ h => h) (Or.inl ⟨by rfl, ?_⟩) ?_ ?_
        rotate_left
        · intro w'
          go_simp
          with_reducible rfl
        rotate_left
        · simp only [Act.put, List.setIfInBounds_toArray, List.set_cons_zero, List.set_cons_succ, i64_w, i32_w]
          rfl
        refine one_ (i := 8) (N := some 12) #[true, true, true, true, true, true, true, true, true, false, false, false] rfl rfl (one_of HT_.out (by kernel_rfl)) (by decide) (fun K hK => ?_)
        refine box_step ?hg (N := 12) ?hd (cs := #[.slice none 0 0, .slice none 0 0, .slice none 0 0]) (t := 26) ?hr ?_; (case hd => rfl); (case hg => rfl); (case hr => first | (go_simp; done) | (go_simp; rfl))
        intro gb453 hg w62 hbox hb
        have BK453 := Aside0.mk (hbox)
        have GW453 := Aside0.mk ((by rw [hg]; exact (below_size (L_ HB.out)) : w.heap.size ≤ gb453))
        have GE453 := Aside0.mk ((by rw [hg]; exact (below_size (L_ HB.out)) : w.heap.size ≤ gb453))
        have NB405_453 := Aside0.mk ((by rw [hg]; exact Nat.ne_of_lt (blk_lt (g := gb405) (o := .cells #[.slice Ao27 t408.length co27, .slice Ao29 t411.length co29, .slice Ao30 t414.length co30] 26 (0, 0)) (B_ BK405.out)) : gb405 ≠ gb453))
        have NB453_405 := Aside0.mk ((by rw [hg]; exact Nat.ne_of_gt (blk_lt (g := gb405) (o := .cells #[.slice Ao27 t408.length co27, .slice Ao29 t411.length co29, .slice Ao30 t414.length co30] 26 (0, 0)) (B_ BK405.out)) : gb453 ≠ gb405))
        have NB406_453 := Aside0.mk ((by rw [hg]; exact Nat.ne_of_lt (blk_lt (g := gb406) (o := .cells #[.string t417, .string t418] 39 (0, 0)) (B_ BK406.out)) : gb406 ≠ gb453))
        have NB453_406 := Aside0.mk ((by rw [hg]; exact Nat.ne_of_gt (blk_lt (g := gb406) (o := .cells #[.string t417, .string t418] 39 (0, 0)) (B_ BK406.out)) : gb453 ≠ gb406))
        have NB429_453 := Aside0.mk ((by rw [hg]; exact Nat.ne_of_lt (blk_lt (g := gb429) (o := .cells #[.slice Ao41 t419.length co41, .slice Ao45 t422.length co45, .slice Ao46 t425.length co46] 26 (0, 0)) (B_ BK429.out)) : gb429 ≠ gb453))
        have NB453_429 := Aside0.mk ((by rw [hg]; exact Nat.ne_of_gt (blk_lt (g := gb429) (o := .cells #[.slice Ao41 t419.length co41, .slice Ao45 t422.length co45, .slice Ao46 t425.length co46] 26 (0, 0)) (B_ BK429.out)) : gb453 ≠ gb429))
        have NB440_453 := Aside0.mk ((by rw [hg]; exact Nat.ne_of_lt (blk_lt (g := gb440) (o := .cells #[.slice Ao51 t430.length co51, .slice Ao56 t433.length co56, .slice Ao57 t436.length co57] 26 (0, 0)) (B_ BK440.out)) : gb440 ≠ gb453))
        have NB453_440 := Aside0.mk ((by rw [hg]; exact Nat.ne_of_gt (blk_lt (g := gb440) (o := .cells #[.slice Ao51 t430.length co51, .slice Ao56 t433.length co56, .slice Ao57 t436.length co57] 26 (0, 0)) (B_ BK440.out)) : gb453 ≠ gb440))
        replace HO410 := Aside0.mk (Kd.R_below (R_ HO410.out) hb)
        replace HO413 := Aside0.mk (Kd.R_below (R_ HO413.out) hb)
        replace HO416 := Aside0.mk (Kd.R_below (R_ HO416.out) hb)
        replace HO421 := Aside0.mk (Kd.R_below (R_ HO421.out) hb)
        replace HO424 := Aside0.mk (Kd.R_below (R_ HO424.out) hb)
        replace HO427 := Aside0.mk (Kd.R_below (R_ HO427.out) hb)
        replace HO432 := Aside0.mk (Kd.R_below (R_ HO432.out) hb)
        replace HO435 := Aside0.mk (Kd.R_below (R_ HO435.out) hb)
        replace HO438 := Aside0.mk (Kd.R_below (R_ HO438.out) hb)
        replace HO444 := Aside0.mk (Kd.R_below (R_ HO444.out) hb)
        replace HO447 := Aside0.mk (Kd.R_below (R_ HO447.out) hb)
        replace HO450 := Aside0.mk (Kd.R_below (R_ HO450.out) hb)
        replace BK405 := Aside0.mk (blk_below (g := gb405) (o := .cells #[.slice Ao27 t408.length co27, .slice Ao29 t411.length co29, .slice Ao30 t414.length co30] 26 (0, 0)) (B_ BK405.out) hb)
        replace BK406 := Aside0.mk (blk_below (g := gb406) (o := .cells #[.string t417, .string t418] 39 (0, 0)) (B_ BK406.out) hb)
        replace BK429 := Aside0.mk (blk_below (g := gb429) (o := .cells #[.slice Ao41 t419.length co41, .slice Ao45 t422.length co45, .slice Ao46 t425.length co46] 26 (0, 0)) (B_ BK429.out) hb)
        replace BK440 := Aside0.mk (blk_below (g := gb440) (o := .cells #[.slice Ao51 t430.length co51, .slice Ao56 t433.length co56, .slice Ao57 t436.length co57] 26 (0, 0)) (B_ BK440.out) hb)
        replace HB := Aside0.mk (below_step (L_ HB.out) hb)
        clear hb hbox hg
        refine hK.out _ _ ⟨(blk_cell BK405.out 0).trans rfl, (blk_cell BK405.out 1).trans rfl, (blk_cell BK405.out 2).trans rfl⟩ (fun hHeld => ?_)
        clear hK K
        refine norm_ (a' := ?_) ?_ ?_
        rotate_left
        · show Act.put _ (some 12) _ = _
          simp only [Act.put, List.setIfInBounds_toArray, List.set_cons_zero, List.set_cons_succ, i64_w, i32_w]
          rfl
        exact norm_ (by simp only [putAll, Act.put, List.setIfInBounds_toArray, List.set_cons_zero, List.set_cons_succ]) (hCont (v443, v446, v449, gb453) _ ⟨hHeld, (R_ (Kd.R_mono HO410.out (fun _ hk => ⟨hk.1.1, ⟨hk.1.2.1, ⟨hk.2, hk.1.2.2⟩⟩⟩))), (R_ (Kd.R_mono HO413.out (fun _ hk => ⟨hk.1.1, ⟨hk.1.2, hk.2⟩⟩))), (R_ (Kd.R_mono HO416.out (fun _ hk => ⟨hk.1.1, ⟨hk.1.2, hk.2⟩⟩))), (R_ (Kd.R_mono HO421.out (fun _ hk => ⟨hk.1.1, ⟨hk.1.2.1, ⟨hk.2, hk.1.2.2⟩⟩⟩))), (R_ (Kd.R_mono HO424.out (fun _ hk => ⟨hk.1.1, ⟨hk.1.2, hk.2⟩⟩))), (R_ (Kd.R_mono HO427.out (fun _ hk => ⟨hk.1.1, ⟨hk.1.2, hk.2⟩⟩))), (R_ (Kd.R_mono HO432.out (fun _ hk => ⟨hk.1.1, ⟨hk.1.2.1, ⟨hk.2, hk.1.2.2⟩⟩⟩))), (R_ (Kd.R_mono HO435.out (fun _ hk => ⟨hk.1.1, ⟨hk.1.2, hk.2⟩⟩))), (R_ (Kd.R_mono HO438.out (fun _ hk => ⟨hk.1.1, ⟨hk.1.2, hk.2⟩⟩))), (R_ (Kd.R_mono HO444.out (fun _ hk => ⟨hk.1.1.1.2, ⟨hk.1.1.2, ⟨hk.1.2, hk.2⟩⟩⟩))), (R_ (Kd.R_mono HO447.out (fun _ hk => ⟨hk.1.1.2, ⟨hk.1.2, hk.2⟩⟩))), (R_ (Kd.R_mono HO450.out (fun _ hk => ⟨hk.1.1.2, ⟨hk.1.2, hk.2⟩⟩))), (B_ BK405.out), (B_ BK406.out), (B_ BK429.out), (B_ BK440.out), (B_ BK453.out), GW453.out, GE453.out, NB405_453.out, NB453_405.out, NB406_453.out, NB453_406.out, NB429_453.out, NB453_429.out, NB440_453.out, NB453_440.out, (L_ HB.out)⟩)
      · skip
        refine box_step ?hg (N := 12) ?hd (cs := #[.slice none 0 0, .slice none 0 0, .slice none 0 0]) (t := 26) ?hr ?_; (case hd => rfl); (case hg => rfl); (case hr => first | (go_simp; done) | (go_simp; rfl))
        intro gb453 hg w61 hbox hb
        have BK453 := Aside0.mk (hbox)
        have GW453 := Aside0.mk ((by rw [hg]; exact (below_size (L_ HB.out)) : w.heap.size ≤ gb453))
        have GE453 := Aside0.mk ((by rw [hg]; exact (below_size (L_ HB.out)) : w.heap.size ≤ gb453))
        have NB405_453 := Aside0.mk ((by rw [hg]; exact Nat.ne_of_lt (blk_lt (g := gb405) (o := .cells #[.slice Ao27 t408.length co27, .slice Ao29 t411.length co29, .slice Ao30 t414.length co30] 26 (0, 0)) (B_ BK405.out)) : gb405 ≠ gb453))
        have NB453_405 := Aside0.mk ((by rw [hg]; exact Nat.ne_of_gt (blk_lt (g := gb405) (o := .cells #[.slice Ao27 t408.length co27, .slice Ao29 t411.length co29, .slice Ao30 t414.length co30] 26 (0, 0)) (B_ BK405.out)) : gb453 ≠ gb405))
        have NB406_453 := Aside0.mk ((by rw [hg]; exact Nat.ne_of_lt (blk_lt (g := gb406) (o := .cells #[.string t417, .string t418] 39 (0, 0)) (B_ BK406.out)) : gb406 ≠ gb453))
        have NB453_406 := Aside0.mk ((by rw [hg]; exact Nat.ne_of_gt (blk_lt (g := gb406) (o := .cells #[.string t417, .string t418] 39 (0, 0)) (B_ BK406.out)) : gb453 ≠ gb406))
        have NB429_453 := Aside0.mk ((by rw [hg]; exact Nat.ne_of_lt (blk_lt (g := gb429) (o := .cells #[.slice Ao41 t419.length co41, .slice Ao45 t422.length co45, .slice Ao46 t425.length co46] 26 (0, 0)) (B_ BK429.out)) : gb429 ≠ gb453))
        have NB453_429 := Aside0.mk ((by rw [hg]; exact Nat.ne_of_gt (blk_lt (g := gb429) (o := .cells #[.slice Ao41 t419.length co41, .slice Ao45 t422.length co45, .slice Ao46 t425.length co46] 26 (0, 0)) (B_ BK429.out)) : gb453 ≠ gb429))
        have NB440_453 := Aside0.mk ((by rw [hg]; exact Nat.ne_of_lt (blk_lt (g := gb440) (o := .cells #[.slice Ao51 t430.length co51, .slice Ao56 t433.length co56, .slice Ao57 t436.length co57] 26 (0, 0)) (B_ BK440.out)) : gb440 ≠ gb453))
        have NB453_440 := Aside0.mk ((by rw [hg]; exact Nat.ne_of_gt (blk_lt (g := gb440) (o := .cells #[.slice Ao51 t430.length co51, .slice Ao56 t433.length co56, .slice Ao57 t436.length co57] 26 (0, 0)) (B_ BK440.out)) : gb453 ≠ gb440))
        replace HO410 := Aside0.mk (Kd.R_below (R_ HO410.out) hb)
        replace HO413 := Aside0.mk (Kd.R_below (R_ HO413.out) hb)
        replace HO416 := Aside0.mk (Kd.R_below (R_ HO416.out) hb)
        replace HO421 := Aside0.mk (Kd.R_below (R_ HO421.out) hb)
        replace HO424 := Aside0.mk (Kd.R_below (R_ HO424.out) hb)
        replace HO427 := Aside0.mk (Kd.R_below (R_ HO427.out) hb)
        replace HO432 := Aside0.mk (Kd.R_below (R_ HO432.out) hb)
        replace HO435 := Aside0.mk (Kd.R_below (R_ HO435.out) hb)
        replace HO438 := Aside0.mk (Kd.R_below (R_ HO438.out) hb)
        replace BK405 := Aside0.mk (blk_below (g := gb405) (o := .cells #[.slice Ao27 t408.length co27, .slice Ao29 t411.length co29, .slice Ao30 t414.length co30] 26 (0, 0)) (B_ BK405.out) hb)
        replace BK406 := Aside0.mk (blk_below (g := gb406) (o := .cells #[.string t417, .string t418] 39 (0, 0)) (B_ BK406.out) hb)
        replace BK429 := Aside0.mk (blk_below (g := gb429) (o := .cells #[.slice Ao41 t419.length co41, .slice Ao45 t422.length co45, .slice Ao46 t425.length co46] 26 (0, 0)) (B_ BK429.out) hb)
        replace BK440 := Aside0.mk (blk_below (g := gb440) (o := .cells #[.slice Ao51 t430.length co51, .slice Ao56 t433.length co56, .slice Ao57 t436.length co57] 26 (0, 0)) (B_ BK440.out) hb)
        replace HB := Aside0.mk (below_step (L_ HB.out) hb)
        clear hb hbox hg
        refine hK.out _ _ ⟨(blk_cell BK405.out 0).trans rfl, (blk_cell BK405.out 1).trans rfl, (blk_cell BK405.out 2).trans rfl⟩ (fun hHeld => ?_)
        clear hK K
        refine norm_ (a' := ?_) ?_ ?_
        rotate_left
        · show Act.put _ (some 12) _ = _
          simp only [Act.put, List.setIfInBounds_toArray, List.set_cons_zero, List.set_cons_succ, i64_w, i32_w]
          rfl
        refine one_ (i := 3) (N := some 44) #[true, true, true, true, false, false, false, false, true, false, false, false] rfl rfl (one_of HT_.out (by kernel_rfl)) (by decide) (fun K hK => ?_)
        refine goes_ Try.func24 (by kernel_rfl) rfl #[.agg #[.slice Ao27 t408.length co27, .slice Ao29 t411.length co29, .slice Ao30 t414.length co30], .string t441] (by rfl) rfl rfl (by (try simp only [List.map_toArray, List.map_cons, List.map_nil]); first | done | rfl | (simp only [List.length_drop, List.length_take]; rfl)) ?_
        with_reducible refine (node_Delete.calls _ _ t408 _ _ t411 _ _ t414 t441 t442 t445 t448 t451 t452 _ ?side1 ?side2 ?side3 ?side4 ?side5 ?side6 A11.out).mono ?_
        (case side1 => repeat (first | exact (Kd.R_reads' HO410.out).2.2 | (with_reducible refine Kd.C_alloc ?_ _) | (with_reducible refine Kd.C_drewN ?_ _) | (with_reducible refine Kd.C_drew ?_)))
        (case side2 => exact (Kd.R_reads' HO410.out).2.1)
        (case side3 => repeat (first | exact (Kd.R_reads' HO413.out).2.2 | (with_reducible refine Kd.C_alloc ?_ _) | (with_reducible refine Kd.C_drewN ?_ _) | (with_reducible refine Kd.C_drew ?_)))
        (case side4 => exact (Kd.R_reads' HO413.out).2.1)
        (case side5 => repeat (first | exact (Kd.R_reads' HO416.out).2.2 | (with_reducible refine Kd.C_alloc ?_ _) | (with_reducible refine Kd.C_drewN ?_ _) | (with_reducible refine Kd.C_drew ?_)))
        (case side6 => exact (Kd.R_reads' HO416.out).2.1)
        rintro e w62 ⟨v443, v446, v449, rfl, ho0, ho1, ho2, hb⟩
        refine ⟨_, rfl, ?_⟩
        have HO444 := Aside0.mk (Kd.R_lower (Kd.R_newB (Kd.R_new' (Kd.R_new' (Kd.R_new' ho0 (Kd.R_lt (R_ HO410.out))) (Kd.R_lt (R_ HO421.out))) (Kd.R_lt (R_ HO432.out))) (g := gb406) (o := .cells #[.string t417, .string t418] 39 (0, 0)) (B_ BK406.out)) (below_size (L_ HB.out)))
        have HO447 := Aside0.mk (Kd.R_lower (Kd.R_new' (Kd.R_new' (Kd.R_new' ho1 (Kd.R_lt (R_ HO413.out))) (Kd.R_lt (R_ HO424.out))) (Kd.R_lt (R_ HO435.out))) (below_size (L_ HB.out)))
        have HO450 := Aside0.mk (Kd.R_lower (Kd.R_new' (Kd.R_new' (Kd.R_new' ho2 (Kd.R_lt (R_ HO416.out))) (Kd.R_lt (R_ HO427.out))) (Kd.R_lt (R_ HO438.out))) (below_size (L_ HB.out)))
        replace HO410 := Aside0.mk (Kd.R_elder' (R_ HO410.out) (Kd.R_base ho0) hb)
        replace HO413 := Aside0.mk (Kd.R_elder' (R_ HO413.out) (Kd.R_base ho1) hb)
        replace HO416 := Aside0.mk (Kd.R_elder' (R_ HO416.out) (Kd.R_base ho2) hb)
        replace HO421 := Aside0.mk (Kd.R_elder' (R_ HO421.out) (Kd.R_base ho0) hb)
        replace HO424 := Aside0.mk (Kd.R_elder' (R_ HO424.out) (Kd.R_base ho1) hb)
        replace HO427 := Aside0.mk (Kd.R_elder' (R_ HO427.out) (Kd.R_base ho2) hb)
        replace HO432 := Aside0.mk (Kd.R_elder' (R_ HO432.out) (Kd.R_base ho0) hb)
        replace HO435 := Aside0.mk (Kd.R_elder' (R_ HO435.out) (Kd.R_base ho1) hb)
        replace HO438 := Aside0.mk (Kd.R_elder' (R_ HO438.out) (Kd.R_base ho2) hb)
        replace BK405 := Aside0.mk (blk_below (g := gb405) (o := .cells #[.slice Ao27 t408.length co27, .slice Ao29 t411.length co29, .slice Ao30 t414.length co30] 26 (0, 0)) (B_ BK405.out) hb)
        replace BK406 := Aside0.mk (blk_below (g := gb406) (o := .cells #[.string t417, .string t418] 39 (0, 0)) (B_ BK406.out) hb)
        replace BK429 := Aside0.mk (blk_below (g := gb429) (o := .cells #[.slice Ao41 t419.length co41, .slice Ao45 t422.length co45, .slice Ao46 t425.length co46] 26 (0, 0)) (B_ BK429.out) hb)
        replace BK440 := Aside0.mk (blk_below (g := gb440) (o := .cells #[.slice Ao51 t430.length co51, .slice Ao56 t433.length co56, .slice Ao57 t436.length co57] 26 (0, 0)) (B_ BK440.out) hb)
        replace BK453 := Aside0.mk (blk_below (g := gb453) (o := .cells #[.slice none 0 0, .slice none 0 0, .slice none 0 0] 26 (0, 0)) (B_ BK453.out) hb)
        replace HB := Aside0.mk (below_step (L_ HB.out) hb)
        (try clear hb)
        (try clear hb2)
        (try clear hk)
        (try clear hi)
        (try clear ho0)
        (try clear ho1)
        (try clear ho2)
        refine hK.out _ _ ⟨(blk_cell BK405.out 0).trans rfl, (blk_cell BK405.out 1).trans rfl, (blk_cell BK405.out 2).trans rfl⟩ (fun hHeld => ?_)
        clear hK K
        refine norm_ (a' := ?_) ?_ ?_
        rotate_left
        · show Act.put _ (some 44) _ = _
          simp only [Act.put, List.setIfInBounds_toArray, List.set_cons_zero, List.set_cons_succ, i64_w, i32_w]
          rfl
        refine pure_ (i := 4) (N := some 40) (v := ?_) (a' := ?_) #[true, true, true, true, true, false, false, false, true, false, false, false] rfl rfl (any_of HT_.out (by kernel_rfl)) (fun _ _ _ h => h) (Or.inl ⟨by rfl, ?_⟩) ?_ ?_
        rotate_left
        · intro w'
          go_simp
          with_reducible rfl
        rotate_left
        · simp only [Act.put, List.setIfInBounds_toArray, List.set_cons_zero, List.set_cons_succ, i64_w, i32_w]
          rfl
        refine pure_ (i := 5) (N := some 45) (v := ?_) (a' := ?_) #[true, true, true, true, true, true, false, false, true, false, false, false] rfl rfl (any_of HT_.out (by kernel_rfl)) (fun _ _ _ h => h) (Or.inl ⟨by rfl, ?_⟩) ?_ ?_
        rotate_left
        · intro w'
          go_simp
          with_reducible rfl
        rotate_left
        · simp only [Act.put, List.setIfInBounds_toArray, List.set_cons_zero, List.set_cons_succ, i64_w, i32_w]
          rfl
        refine pure_ (i := 6) (N := some 46) (v := ?_) (a' := ?_) #[true, true, true, true, true, true, true, false, true, false, false, false] rfl rfl (any_of HT_.out (by kernel_rfl)) (fun _ _ _ h => h) (Or.inl ⟨by rfl, ?_⟩) ?_ ?_
        rotate_left
        · intro w'
          go_simp
          with_reducible rfl
        rotate_left
        · simp only [Act.put, List.setIfInBounds_toArray, List.set_cons_zero, List.set_cons_succ, i64_w, i32_w]
          rfl
        refine pure_ (i := 7) (N := some 47) (v := ?_) (a' := ?_) #[true, true, true, true, true, true, true, true, true, false, false, false] rfl rfl (any_of HT_.out (by kernel_rfl)) (fun _ _ _ h => h) (Or.inl ⟨by rfl, ?_⟩) ?_ ?_
        rotate_left
        · intro w'
          go_simp
          with_reducible rfl
        rotate_left
        · simp only [Act.put, List.setIfInBounds_toArray, List.set_cons_zero, List.set_cons_succ, i64_w, i32_w]
          rfl
        exact norm_ (by simp only [putAll, Act.put, List.setIfInBounds_toArray, List.set_cons_zero, List.set_cons_succ]) (hCont (v443, v446, v449, gb453) _ ⟨hHeld, (R_ (Kd.R_mono HO410.out (fun _ hk => ⟨hk.1.1, ⟨hk.1.2.1, ⟨hk.2, hk.1.2.2⟩⟩⟩))), (R_ (Kd.R_mono HO413.out (fun _ hk => ⟨hk.1.1, ⟨hk.1.2, hk.2⟩⟩))), (R_ (Kd.R_mono HO416.out (fun _ hk => ⟨hk.1.1, ⟨hk.1.2, hk.2⟩⟩))), (R_ (Kd.R_mono HO421.out (fun _ hk => ⟨hk.1.1, ⟨hk.1.2.1, ⟨hk.2, hk.1.2.2⟩⟩⟩))), (R_ (Kd.R_mono HO424.out (fun _ hk => ⟨hk.1.1, ⟨hk.1.2, hk.2⟩⟩))), (R_ (Kd.R_mono HO427.out (fun _ hk => ⟨hk.1.1, ⟨hk.1.2, hk.2⟩⟩))), (R_ (Kd.R_mono HO432.out (fun _ hk => ⟨hk.1.1, ⟨hk.1.2.1, ⟨hk.2, hk.1.2.2⟩⟩⟩))), (R_ (Kd.R_mono HO435.out (fun _ hk => ⟨hk.1.1, ⟨hk.1.2, hk.2⟩⟩))), (R_ (Kd.R_mono HO438.out (fun _ hk => ⟨hk.1.1, ⟨hk.1.2, hk.2⟩⟩))), (R_ (Kd.R_mono HO444.out (fun _ hk => ⟨hk.1.1.1.2, ⟨hk.1.1.2, ⟨hk.1.2, hk.2⟩⟩⟩))), (R_ (Kd.R_mono HO447.out (fun _ hk => ⟨hk.1.1.2, ⟨hk.1.2, hk.2⟩⟩))), (R_ (Kd.R_mono HO450.out (fun _ hk => ⟨hk.1.1.2, ⟨hk.1.2, hk.2⟩⟩))), (B_ BK405.out), (B_ BK406.out), (B_ BK429.out), (B_ BK440.out), (B_ BK453.out), GW453.out, GE453.out, NB405_453.out, NB453_405.out, NB406_453.out, NB453_406.out, NB429_453.out, NB453_429.out, NB440_453.out, NB453_440.out, (L_ HB.out)⟩)
    · skip
      refine box_step ?hg (N := 12) ?hd (cs := #[.slice none 0 0, .slice none 0 0, .slice none 0 0]) (t := 26) ?hr ?_; (case hd => rfl); (case hg => rfl); (case hr => first | (go_simp; done) | (go_simp; rfl))
      intro gb453 hg w60 hbox hb
      have BK453 := Aside0.mk (hbox)
      have GW453 := Aside0.mk ((by rw [hg]; exact (below_size (L_ HB.out)) : w.heap.size ≤ gb453))
      have GE453 := Aside0.mk ((by rw [hg]; exact (below_size (L_ HB.out)) : w.heap.size ≤ gb453))
      have NB405_453 := Aside0.mk ((by rw [hg]; exact Nat.ne_of_lt (blk_lt (g := gb405) (o := .cells #[.slice Ao27 t408.length co27, .slice Ao29 t411.length co29, .slice Ao30 t414.length co30] 26 (0, 0)) (B_ BK405.out)) : gb405 ≠ gb453))
      have NB453_405 := Aside0.mk ((by rw [hg]; exact Nat.ne_of_gt (blk_lt (g := gb405) (o := .cells #[.slice Ao27 t408.length co27, .slice Ao29 t411.length co29, .slice Ao30 t414.length co30] 26 (0, 0)) (B_ BK405.out)) : gb453 ≠ gb405))
      have NB406_453 := Aside0.mk ((by rw [hg]; exact Nat.ne_of_lt (blk_lt (g := gb406) (o := .cells #[.string t417, .string t418] 39 (0, 0)) (B_ BK406.out)) : gb406 ≠ gb453))
      have NB453_406 := Aside0.mk ((by rw [hg]; exact Nat.ne_of_gt (blk_lt (g := gb406) (o := .cells #[.string t417, .string t418] 39 (0, 0)) (B_ BK406.out)) : gb453 ≠ gb406))
      have NB429_453 := Aside0.mk ((by rw [hg]; exact Nat.ne_of_lt (blk_lt (g := gb429) (o := .cells #[.slice Ao41 t419.length co41, .slice Ao45 t422.length co45, .slice Ao46 t425.length co46] 26 (0, 0)) (B_ BK429.out)) : gb429 ≠ gb453))
      have NB453_429 := Aside0.mk ((by rw [hg]; exact Nat.ne_of_gt (blk_lt (g := gb429) (o := .cells #[.slice Ao41 t419.length co41, .slice Ao45 t422.length co45, .slice Ao46 t425.length co46] 26 (0, 0)) (B_ BK429.out)) : gb453 ≠ gb429))
      have NB440_453 := Aside0.mk ((by rw [hg]; exact Nat.ne_of_lt (blk_lt (g := gb440) (o := .cells #[.slice Ao51 t430.length co51, .slice Ao56 t433.length co56, .slice Ao57 t436.length co57] 26 (0, 0)) (B_ BK440.out)) : gb440 ≠ gb453))
      have NB453_440 := Aside0.mk ((by rw [hg]; exact Nat.ne_of_gt (blk_lt (g := gb440) (o := .cells #[.slice Ao51 t430.length co51, .slice Ao56 t433.length co56, .slice Ao57 t436.length co57] 26 (0, 0)) (B_ BK440.out)) : gb453 ≠ gb440))
      replace HO410 := Aside0.mk (Kd.R_below (R_ HO410.out) hb)
      replace HO413 := Aside0.mk (Kd.R_below (R_ HO413.out) hb)
      replace HO416 := Aside0.mk (Kd.R_below (R_ HO416.out) hb)
      replace HO421 := Aside0.mk (Kd.R_below (R_ HO421.out) hb)
      replace HO424 := Aside0.mk (Kd.R_below (R_ HO424.out) hb)
      replace HO427 := Aside0.mk (Kd.R_below (R_ HO427.out) hb)
      replace HO432 := Aside0.mk (Kd.R_below (R_ HO432.out) hb)
      replace HO435 := Aside0.mk (Kd.R_below (R_ HO435.out) hb)
      replace HO438 := Aside0.mk (Kd.R_below (R_ HO438.out) hb)
      replace BK405 := Aside0.mk (blk_below (g := gb405) (o := .cells #[.slice Ao27 t408.length co27, .slice Ao29 t411.length co29, .slice Ao30 t414.length co30] 26 (0, 0)) (B_ BK405.out) hb)
      replace BK406 := Aside0.mk (blk_below (g := gb406) (o := .cells #[.string t417, .string t418] 39 (0, 0)) (B_ BK406.out) hb)
      replace BK429 := Aside0.mk (blk_below (g := gb429) (o := .cells #[.slice Ao41 t419.length co41, .slice Ao45 t422.length co45, .slice Ao46 t425.length co46] 26 (0, 0)) (B_ BK429.out) hb)
      replace BK440 := Aside0.mk (blk_below (g := gb440) (o := .cells #[.slice Ao51 t430.length co51, .slice Ao56 t433.length co56, .slice Ao57 t436.length co57] 26 (0, 0)) (B_ BK440.out) hb)
      replace HB := Aside0.mk (below_step (L_ HB.out) hb)
      clear hb hbox hg
      refine hK.out _ _ ⟨(blk_cell BK405.out 0).trans rfl, (blk_cell BK405.out 1).trans rfl, (blk_cell BK405.out 2).trans rfl⟩ (fun hHeld => ?_)
      clear hK K
      refine norm_ (a' := ?_) ?_ ?_
      rotate_left
      · show Act.put _ (some 12) _ = _
        simp only [Act.put, List.setIfInBounds_toArray, List.set_cons_zero, List.set_cons_succ, i64_w, i32_w]
        rfl
      refine one_ (i := 2) (N := some 43) #[true, true, true, false, false, false, false, false, true, false, false, false] rfl rfl (one_of HT_.out (by kernel_rfl)) (by decide) (fun K hK => ?_)
      refine goes_ Try.func19 (by kernel_rfl) rfl #[.string a2] (by rfl) rfl rfl (by (try simp only [List.map_toArray, List.map_cons, List.map_nil]); first | done | rfl | (simp only [List.length_drop, List.length_take]; rfl)) ?_
      with_reducible refine (bazaarlaw06_text.calls a2 t441 _ A10.out).mono ?_
      rintro e w61 ⟨rfl, hb⟩
      refine ⟨_, rfl, ?_⟩
      replace HO410 := Aside0.mk (Kd.R_below (R_ HO410.out) hb)
      replace HO413 := Aside0.mk (Kd.R_below (R_ HO413.out) hb)
      replace HO416 := Aside0.mk (Kd.R_below (R_ HO416.out) hb)
      replace HO421 := Aside0.mk (Kd.R_below (R_ HO421.out) hb)
      replace HO424 := Aside0.mk (Kd.R_below (R_ HO424.out) hb)
      replace HO427 := Aside0.mk (Kd.R_below (R_ HO427.out) hb)
      replace HO432 := Aside0.mk (Kd.R_below (R_ HO432.out) hb)
      replace HO435 := Aside0.mk (Kd.R_below (R_ HO435.out) hb)
      replace HO438 := Aside0.mk (Kd.R_below (R_ HO438.out) hb)
      replace BK405 := Aside0.mk (blk_below (g := gb405) (o := .cells #[.slice Ao27 t408.length co27, .slice Ao29 t411.length co29, .slice Ao30 t414.length co30] 26 (0, 0)) (B_ BK405.out) hb)
      replace BK406 := Aside0.mk (blk_below (g := gb406) (o := .cells #[.string t417, .string t418] 39 (0, 0)) (B_ BK406.out) hb)
      replace BK429 := Aside0.mk (blk_below (g := gb429) (o := .cells #[.slice Ao41 t419.length co41, .slice Ao45 t422.length co45, .slice Ao46 t425.length co46] 26 (0, 0)) (B_ BK429.out) hb)
      replace BK440 := Aside0.mk (blk_below (g := gb440) (o := .cells #[.slice Ao51 t430.length co51, .slice Ao56 t433.length co56, .slice Ao57 t436.length co57] 26 (0, 0)) (B_ BK440.out) hb)
      replace BK453 := Aside0.mk (blk_below (g := gb453) (o := .cells #[.slice none 0 0, .slice none 0 0, .slice none 0 0] 26 (0, 0)) (B_ BK453.out) hb)
      replace HB := Aside0.mk (below_step (L_ HB.out) hb)
      (try clear hb)
      (try clear hb2)
      (try clear hk)
      (try clear hi)
      refine hK.out _ _ ⟨(blk_cell BK405.out 0).trans rfl, (blk_cell BK405.out 1).trans rfl, (blk_cell BK405.out 2).trans rfl⟩ (fun hHeld => ?_)
      clear hK K
      refine norm_ (a' := ?_) ?_ ?_
      rotate_left
      · show Act.put _ (some 43) _ = _
        simp only [Act.put, List.setIfInBounds_toArray, List.set_cons_zero, List.set_cons_succ, i64_w, i32_w]
        rfl
      refine one_ (i := 3) (N := some 44) #[true, true, true, true, false, false, false, false, true, false, false, false] rfl rfl (one_of HT_.out (by kernel_rfl)) (by decide) (fun K hK => ?_)
      refine goes_ Try.func24 (by kernel_rfl) rfl #[.agg #[.slice Ao27 t408.length co27, .slice Ao29 t411.length co29, .slice Ao30 t414.length co30], .string t441] (by rfl) rfl rfl (by (try simp only [List.map_toArray, List.map_cons, List.map_nil]); first | done | rfl | (simp only [List.length_drop, List.length_take]; rfl)) ?_
      with_reducible refine (node_Delete.calls _ _ t408 _ _ t411 _ _ t414 t441 t442 t445 t448 t451 t452 _ ?side1 ?side2 ?side3 ?side4 ?side5 ?side6 A11.out).mono ?_
      (case side1 => repeat (first | exact (Kd.R_reads' HO410.out).2.2 | (with_reducible refine Kd.C_alloc ?_ _) | (with_reducible refine Kd.C_drewN ?_ _) | (with_reducible refine Kd.C_drew ?_)))
      (case side2 => exact (Kd.R_reads' HO410.out).2.1)
      (case side3 => repeat (first | exact (Kd.R_reads' HO413.out).2.2 | (with_reducible refine Kd.C_alloc ?_ _) | (with_reducible refine Kd.C_drewN ?_ _) | (with_reducible refine Kd.C_drew ?_)))
      (case side4 => exact (Kd.R_reads' HO413.out).2.1)
      (case side5 => repeat (first | exact (Kd.R_reads' HO416.out).2.2 | (with_reducible refine Kd.C_alloc ?_ _) | (with_reducible refine Kd.C_drewN ?_ _) | (with_reducible refine Kd.C_drew ?_)))
      (case side6 => exact (Kd.R_reads' HO416.out).2.1)
      rintro e w62 ⟨v443, v446, v449, rfl, ho0, ho1, ho2, hb⟩
      refine ⟨_, rfl, ?_⟩
      have HO444 := Aside0.mk (Kd.R_lower (Kd.R_newB (Kd.R_new' (Kd.R_new' (Kd.R_new' ho0 (Kd.R_lt (R_ HO410.out))) (Kd.R_lt (R_ HO421.out))) (Kd.R_lt (R_ HO432.out))) (g := gb406) (o := .cells #[.string t417, .string t418] 39 (0, 0)) (B_ BK406.out)) (below_size (L_ HB.out)))
      have HO447 := Aside0.mk (Kd.R_lower (Kd.R_new' (Kd.R_new' (Kd.R_new' ho1 (Kd.R_lt (R_ HO413.out))) (Kd.R_lt (R_ HO424.out))) (Kd.R_lt (R_ HO435.out))) (below_size (L_ HB.out)))
      have HO450 := Aside0.mk (Kd.R_lower (Kd.R_new' (Kd.R_new' (Kd.R_new' ho2 (Kd.R_lt (R_ HO416.out))) (Kd.R_lt (R_ HO427.out))) (Kd.R_lt (R_ HO438.out))) (below_size (L_ HB.out)))
      replace HO410 := Aside0.mk (Kd.R_elder' (R_ HO410.out) (Kd.R_base ho0) hb)
      replace HO413 := Aside0.mk (Kd.R_elder' (R_ HO413.out) (Kd.R_base ho1) hb)
      replace HO416 := Aside0.mk (Kd.R_elder' (R_ HO416.out) (Kd.R_base ho2) hb)
      replace HO421 := Aside0.mk (Kd.R_elder' (R_ HO421.out) (Kd.R_base ho0) hb)
      replace HO424 := Aside0.mk (Kd.R_elder' (R_ HO424.out) (Kd.R_base ho1) hb)
      replace HO427 := Aside0.mk (Kd.R_elder' (R_ HO427.out) (Kd.R_base ho2) hb)
      replace HO432 := Aside0.mk (Kd.R_elder' (R_ HO432.out) (Kd.R_base ho0) hb)
      replace HO435 := Aside0.mk (Kd.R_elder' (R_ HO435.out) (Kd.R_base ho1) hb)
      replace HO438 := Aside0.mk (Kd.R_elder' (R_ HO438.out) (Kd.R_base ho2) hb)
      replace BK405 := Aside0.mk (blk_below (g := gb405) (o := .cells #[.slice Ao27 t408.length co27, .slice Ao29 t411.length co29, .slice Ao30 t414.length co30] 26 (0, 0)) (B_ BK405.out) hb)
      replace BK406 := Aside0.mk (blk_below (g := gb406) (o := .cells #[.string t417, .string t418] 39 (0, 0)) (B_ BK406.out) hb)
      replace BK429 := Aside0.mk (blk_below (g := gb429) (o := .cells #[.slice Ao41 t419.length co41, .slice Ao45 t422.length co45, .slice Ao46 t425.length co46] 26 (0, 0)) (B_ BK429.out) hb)
      replace BK440 := Aside0.mk (blk_below (g := gb440) (o := .cells #[.slice Ao51 t430.length co51, .slice Ao56 t433.length co56, .slice Ao57 t436.length co57] 26 (0, 0)) (B_ BK440.out) hb)
      replace BK453 := Aside0.mk (blk_below (g := gb453) (o := .cells #[.slice none 0 0, .slice none 0 0, .slice none 0 0] 26 (0, 0)) (B_ BK453.out) hb)
      replace HB := Aside0.mk (below_step (L_ HB.out) hb)
      (try clear hb)
      (try clear hb2)
      (try clear hk)
      (try clear hi)
      (try clear ho0)
      (try clear ho1)
      (try clear ho2)
      refine hK.out _ _ ⟨(blk_cell BK405.out 0).trans rfl, (blk_cell BK405.out 1).trans rfl, (blk_cell BK405.out 2).trans rfl⟩ (fun hHeld => ?_)
      clear hK K
      refine norm_ (a' := ?_) ?_ ?_
      rotate_left
      · show Act.put _ (some 44) _ = _
        simp only [Act.put, List.setIfInBounds_toArray, List.set_cons_zero, List.set_cons_succ, i64_w, i32_w]
        rfl
      refine pure_ (i := 4) (N := some 40) (v := ?_) (a' := ?_) #[true, true, true, true, true, false, false, false, true, false, false, false] rfl rfl (any_of HT_.out (by kernel_rfl)) (fun _ _ _ h => h) (Or.inl ⟨by rfl, ?_⟩) ?_ ?_
      rotate_left
      · intro w'
        go_simp
        with_reducible rfl
      rotate_left
      · simp only [Act.put, List.setIfInBounds_toArray, List.set_cons_zero, List.set_cons_succ, i64_w, i32_w]
        rfl
      refine pure_ (i := 5) (N := some 45) (v := ?_) (a' := ?_) #[true, true, true, true, true, true, false, false, true, false, false, false] rfl rfl (any_of HT_.out (by kernel_rfl)) (fun _ _ _ h => h) (Or.inl ⟨by rfl, ?_⟩) ?_ ?_
      rotate_left
      · intro w'
        go_simp
        with_reducible rfl
      rotate_left
      · simp only [Act.put, List.setIfInBounds_toArray, List.set_cons_zero, List.set_cons_succ, i64_w, i32_w]
        rfl
      refine pure_ (i := 6) (N := some 46) (v := ?_) (a' := ?_) #[true, true, true, true, true, true, true, false, true, false, false, false] rfl rfl (any_of HT_.out (by kernel_rfl)) (fun _ _ _ h => h) (Or.inl ⟨by rfl, ?_⟩) ?_ ?_
      rotate_left
      · intro w'
        go_simp
        with_reducible rfl
      rotate_left
      · simp only [Act.put, List.setIfInBounds_toArray, List.set_cons_zero, List.set_cons_succ, i64_w, i32_w]
        rfl
      refine pure_ (i := 7) (N := some 47) (v := ?_) (a' := ?_) #[true, true, true, true, true, true, true, true, true, false, false, false] rfl rfl (any_of HT_.out (by kernel_rfl)) (fun _ _ _ h => h) (Or.inl ⟨by rfl, ?_⟩) ?_ ?_
      rotate_left
      · intro w'
        go_simp
        with_reducible rfl
      rotate_left
      · simp only [Act.put, List.setIfInBounds_toArray, List.set_cons_zero, List.set_cons_succ, i64_w, i32_w]
        rfl
      exact norm_ (by simp only [putAll, Act.put, List.setIfInBounds_toArray, List.set_cons_zero, List.set_cons_succ]) (hCont (v443, v446, v449, gb453) _ ⟨hHeld, (R_ (Kd.R_mono HO410.out (fun _ hk => ⟨hk.1.1, ⟨hk.1.2.1, ⟨hk.2, hk.1.2.2⟩⟩⟩))), (R_ (Kd.R_mono HO413.out (fun _ hk => ⟨hk.1.1, ⟨hk.1.2, hk.2⟩⟩))), (R_ (Kd.R_mono HO416.out (fun _ hk => ⟨hk.1.1, ⟨hk.1.2, hk.2⟩⟩))), (R_ (Kd.R_mono HO421.out (fun _ hk => ⟨hk.1.1, ⟨hk.1.2.1, ⟨hk.2, hk.1.2.2⟩⟩⟩))), (R_ (Kd.R_mono HO424.out (fun _ hk => ⟨hk.1.1, ⟨hk.1.2, hk.2⟩⟩))), (R_ (Kd.R_mono HO427.out (fun _ hk => ⟨hk.1.1, ⟨hk.1.2, hk.2⟩⟩))), (R_ (Kd.R_mono HO432.out (fun _ hk => ⟨hk.1.1, ⟨hk.1.2.1, ⟨hk.2, hk.1.2.2⟩⟩⟩))), (R_ (Kd.R_mono HO435.out (fun _ hk => ⟨hk.1.1, ⟨hk.1.2, hk.2⟩⟩))), (R_ (Kd.R_mono HO438.out (fun _ hk => ⟨hk.1.1, ⟨hk.1.2, hk.2⟩⟩))), (R_ (Kd.R_mono HO444.out (fun _ hk => ⟨hk.1.1.1.2, ⟨hk.1.1.2, ⟨hk.1.2, hk.2⟩⟩⟩))), (R_ (Kd.R_mono HO447.out (fun _ hk => ⟨hk.1.1.2, ⟨hk.1.2, hk.2⟩⟩))), (R_ (Kd.R_mono HO450.out (fun _ hk => ⟨hk.1.1.2, ⟨hk.1.2, hk.2⟩⟩))), (B_ BK405.out), (B_ BK406.out), (B_ BK429.out), (B_ BK440.out), (B_ BK453.out), GW453.out, GE453.out, NB405_453.out, NB453_405.out, NB406_453.out, NB453_406.out, NB429_453.out, NB453_429.out, NB440_453.out, NB453_440.out, (L_ HB.out)⟩)
  rintro ⟨v443, v446, v449, gb453⟩ w63 ⟨hS_, h0_, h1_, h2_, h3_, h4_, h5_, h6_, h7_, h8_, h9_, h10_, h11_, h12_, h13_, h14_, h15_, h16_, h17_, h18_, h19_, h20_, h21_, h22_, h23_, h24_, h25_, h26_, h27_⟩
  have n0_ : Aside0 (Kd.R k39 39 w63 w.heap.size (fun k_ => some k_ ≠ (.slice Ao41 t419.length co41 : Value).ownBlock ∧ some k_ ≠ (.slice Ao51 t430.length co51 : Value).ownBlock ∧ some k_ ≠ (v443 : Value).ownBlock ∧ k_ ≠ gb406) (.slice Ao27 t408.length co27) t408) := ⟨h0_⟩
  have n1_ : Aside0 (Kd.R Kd.string 9 w63 w.heap.size (fun k_ => some k_ ≠ (.slice Ao45 t422.length co45 : Value).ownBlock ∧ some k_ ≠ (.slice Ao56 t433.length co56 : Value).ownBlock ∧ some k_ ≠ (v446 : Value).ownBlock) (.slice Ao29 t411.length co29) t411) := ⟨h1_⟩
  have n2_ : Aside0 (Kd.R (Kd.int .u32) 65 w63 w.heap.size (fun k_ => some k_ ≠ (.slice Ao46 t425.length co46 : Value).ownBlock ∧ some k_ ≠ (.slice Ao57 t436.length co57 : Value).ownBlock ∧ some k_ ≠ (v449 : Value).ownBlock) (.slice Ao30 t414.length co30) t414) := ⟨h2_⟩
  have n3_ : Aside0 (Kd.R k39 39 w63 w.heap.size (fun k_ => some k_ ≠ (.slice Ao27 t408.length co27 : Value).ownBlock ∧ some k_ ≠ (.slice Ao51 t430.length co51 : Value).ownBlock ∧ some k_ ≠ (v443 : Value).ownBlock ∧ k_ ≠ gb406) (.slice Ao41 t419.length co41) t419) := ⟨h3_⟩
  have n4_ : Aside0 (Kd.R Kd.string 9 w63 w.heap.size (fun k_ => some k_ ≠ (.slice Ao29 t411.length co29 : Value).ownBlock ∧ some k_ ≠ (.slice Ao56 t433.length co56 : Value).ownBlock ∧ some k_ ≠ (v446 : Value).ownBlock) (.slice Ao45 t422.length co45) t422) := ⟨h4_⟩
  have n5_ : Aside0 (Kd.R (Kd.int .u32) 65 w63 w.heap.size (fun k_ => some k_ ≠ (.slice Ao30 t414.length co30 : Value).ownBlock ∧ some k_ ≠ (.slice Ao57 t436.length co57 : Value).ownBlock ∧ some k_ ≠ (v449 : Value).ownBlock) (.slice Ao46 t425.length co46) t425) := ⟨h5_⟩
  have n6_ : Aside0 (Kd.R k39 39 w63 w.heap.size (fun k_ => some k_ ≠ (.slice Ao27 t408.length co27 : Value).ownBlock ∧ some k_ ≠ (.slice Ao41 t419.length co41 : Value).ownBlock ∧ some k_ ≠ (v443 : Value).ownBlock ∧ k_ ≠ gb406) (.slice Ao51 t430.length co51) t430) := ⟨h6_⟩
  have n7_ : Aside0 (Kd.R Kd.string 9 w63 w.heap.size (fun k_ => some k_ ≠ (.slice Ao29 t411.length co29 : Value).ownBlock ∧ some k_ ≠ (.slice Ao45 t422.length co45 : Value).ownBlock ∧ some k_ ≠ (v446 : Value).ownBlock) (.slice Ao56 t433.length co56) t433) := ⟨h7_⟩
  have n8_ : Aside0 (Kd.R (Kd.int .u32) 65 w63 w.heap.size (fun k_ => some k_ ≠ (.slice Ao30 t414.length co30 : Value).ownBlock ∧ some k_ ≠ (.slice Ao46 t425.length co46 : Value).ownBlock ∧ some k_ ≠ (v449 : Value).ownBlock) (.slice Ao57 t436.length co57) t436) := ⟨h8_⟩
  have n9_ : Aside0 (Kd.R k39 39 w63 w.heap.size (fun k_ => some k_ ≠ (.slice Ao27 t408.length co27 : Value).ownBlock ∧ some k_ ≠ (.slice Ao41 t419.length co41 : Value).ownBlock ∧ some k_ ≠ (.slice Ao51 t430.length co51 : Value).ownBlock ∧ k_ ≠ gb406) v443 t442) := ⟨h9_⟩
  have n10_ : Aside0 (Kd.R Kd.string 9 w63 w.heap.size (fun k_ => some k_ ≠ (.slice Ao29 t411.length co29 : Value).ownBlock ∧ some k_ ≠ (.slice Ao45 t422.length co45 : Value).ownBlock ∧ some k_ ≠ (.slice Ao56 t433.length co56 : Value).ownBlock) v446 t445) := ⟨h10_⟩
  have n11_ : Aside0 (Kd.R (Kd.int .u32) 65 w63 w.heap.size (fun k_ => some k_ ≠ (.slice Ao30 t414.length co30 : Value).ownBlock ∧ some k_ ≠ (.slice Ao46 t425.length co46 : Value).ownBlock ∧ some k_ ≠ (.slice Ao57 t436.length co57 : Value).ownBlock) v449 t448) := ⟨h11_⟩
  have n12_ : Aside0 (w63.heap[gb405]? = some (.cells #[.slice Ao27 t408.length co27, .slice Ao29 t411.length co29, .slice Ao30 t414.length co30] 26 (0, 0))) := ⟨h12_⟩
  have n13_ : Aside0 (w63.heap[gb406]? = some (.cells #[.string t417, .string t418] 39 (0, 0))) := ⟨h13_⟩
  have n14_ : Aside0 (w63.heap[gb429]? = some (.cells #[.slice Ao41 t419.length co41, .slice Ao45 t422.length co45, .slice Ao46 t425.length co46] 26 (0, 0))) := ⟨h14_⟩
  have n15_ : Aside0 (w63.heap[gb440]? = some (.cells #[.slice Ao51 t430.length co51, .slice Ao56 t433.length co56, .slice Ao57 t436.length co57] 26 (0, 0))) := ⟨h15_⟩
  have n16_ : Aside0 (w63.heap[gb453]? = some (.cells #[.slice none 0 0, .slice none 0 0, .slice none 0 0] 26 (0, 0))) := ⟨h16_⟩
  have n17_ : Aside0 (w.heap.size ≤ gb453) := ⟨h17_⟩
  have n18_ : Aside0 (w.heap.size ≤ gb453) := ⟨h18_⟩
  have n19_ : Aside0 (gb405 ≠ gb453) := ⟨h19_⟩
  have n20_ : Aside0 (gb453 ≠ gb405) := ⟨h20_⟩
  have n21_ : Aside0 (gb406 ≠ gb453) := ⟨h21_⟩
  have n22_ : Aside0 (gb453 ≠ gb406) := ⟨h22_⟩
  have n23_ : Aside0 (gb429 ≠ gb453) := ⟨h23_⟩
  have n24_ : Aside0 (gb453 ≠ gb429) := ⟨h24_⟩
  have n25_ : Aside0 (gb440 ≠ gb453) := ⟨h25_⟩
  have n26_ : Aside0 (gb453 ≠ gb440) := ⟨h26_⟩
  have n27_ : Aside0 (Below w.heap.size w w63) := ⟨h27_⟩
  clear HO410
  clear HO413
  clear HO416
  clear HO421
  clear HO424
  clear HO427
  clear HO432
  clear HO435
  clear HO438
  clear BK405
  clear BK406
  clear BK429
  clear BK440
  clear HB
  clear h0_ h1_ h2_ h3_ h4_ h5_ h6_ h7_ h8_ h9_ h10_ h11_ h12_ h13_ h14_ h15_ h16_ h17_ h18_ h19_ h20_ h21_ h22_ h23_ h24_ h25_ h26_ h27_
  have HO410 := n0_
  have HO413 := n1_
  have HO416 := n2_
  have HO421 := n3_
  have HO424 := n4_
  have HO427 := n5_
  have HO432 := n6_
  have HO435 := n7_
  have HO438 := n8_
  have HO444 := n9_
  have HO447 := n10_
  have HO450 := n11_
  have BK405 := n12_
  have BK406 := n13_
  have BK429 := n14_
  have BK440 := n15_
  have BK453 := n16_
  have GW453 := n17_
  have GE453 := n18_
  have NB405_453 := n19_
  have NB453_405 := n20_
  have NB406_453 := n21_
  have NB453_406 := n22_
  have NB429_453 := n23_
  have NB453_429 := n24_
  have NB440_453 := n25_
  have NB453_440 := n26_
  have HB := n27_
  clear n0_ n1_ n2_ n3_ n4_ n5_ n6_ n7_ n8_ n9_ n10_ n11_ n12_ n13_ n14_ n15_ n16_ n17_ n18_ n19_ n20_ n21_ n22_ n23_ n24_ n25_ n26_ n27_
  have hHeld : w63.cell? ⟨gb405, 0, none⟩ = some (.slice Ao27 t408.length co27) ∧ w63.cell? ⟨gb405, 1, none⟩ = some (.slice Ao29 t411.length co29) ∧ w63.cell? ⟨gb405, 2, none⟩ = some (.slice Ao30 t414.length co30) := hS_
  obtain ⟨Ao64, co64, eo64⟩ := Kd.R_slice HO444.out
  (first | subst eo64 | (injection eo64 with f1_ f2_ f3_; have f4_ := f1_.symm; have f5_ := f3_.symm; clear f1_ f2_ f3_; subst f4_; subst f5_))
  obtain ⟨Ao66, co66, eo66⟩ := Kd.R_slice HO447.out
  (first | subst eo66 | (injection eo66 with f1_ f2_ f3_; have f4_ := f1_.symm; have f5_ := f3_.symm; clear f1_ f2_ f3_; subst f4_; subst f5_))
  obtain ⟨Ao68, co68, eo68⟩ := Kd.R_slice HO450.out
  (first | subst eo68 | (injection eo68 with f1_ f2_ f3_; have f4_ := f1_.symm; have f5_ := f3_.symm; clear f1_ f2_ f3_; subst f4_; subst f5_))
  refine norm_ (a' := ?_) ?_ ?_
  rotate_left
  · simp only [putAll, Act.put, List.setIfInBounds_toArray, List.set_cons_zero, List.set_cons_succ]
    rfl
  refine one_ (i := 9) (N := none) #[true, true, true, true, true, true, true, true, true, true, false, false] rfl rfl (one_of HT_.out (by kernel_rfl)) (by decide) (fun K hK => ?_)
  have hs65 : w63.cell? ⟨gb453, 0, none⟩ = some (.slice none 0 0) := (blk_cell BK453.out 0).trans rfl
  have hfs65 := blk_frozen BK453.out 0
  have hns65_0 := NB405_453.out
  have hns65_1 := NB406_453.out
  have hns65_2 := NB429_453.out
  have hns65_3 := NB440_453.out
  have hms65_0 := NB453_405.out
  have hms65_1 := NB453_406.out
  have hms65_2 := NB453_429.out
  have hms65_3 := NB453_440.out
  have hs67 : w63.cell? ⟨gb453, 1, none⟩ = some (.slice none 0 0) := (blk_cell BK453.out 1).trans rfl
  have hfs67 := blk_frozen BK453.out 1
  have hns67_0 := NB405_453.out
  have hns67_1 := NB406_453.out
  have hns67_2 := NB429_453.out
  have hns67_3 := NB440_453.out
  have hms67_0 := NB453_405.out
  have hms67_1 := NB453_406.out
  have hms67_2 := NB453_429.out
  have hms67_3 := NB453_440.out
  have hs69 : w63.cell? ⟨gb453, 2, none⟩ = some (.slice none 0 0) := (blk_cell BK453.out 2).trans rfl
  have hfs69 := blk_frozen BK453.out 2
  have hns69_0 := NB405_453.out
  have hns69_1 := NB406_453.out
  have hns69_2 := NB429_453.out
  have hns69_3 := NB440_453.out
  have hms69_0 := NB453_405.out
  have hms69_1 := NB453_406.out
  have hms69_2 := NB453_429.out
  have hms69_3 := NB453_440.out
  refine skip_ (w1 := ?_) (by rfl) rfl ?_ ?_
  rotate_left
  · go_simp
    rfl
  refine hK.out _ _ ⟨((cell_far (p := ⟨gb453, _, none⟩) NB405_453.out _).trans (((cell_far (p := ⟨gb453, _, none⟩) NB405_453.out _).trans (((cell_far (p := ⟨gb453, _, none⟩) NB405_453.out _).trans (hHeld.1)))))), ((cell_far (p := ⟨gb453, _, none⟩) NB405_453.out _).trans (((cell_far (p := ⟨gb453, _, none⟩) NB405_453.out _).trans (((cell_far (p := ⟨gb453, _, none⟩) NB405_453.out _).trans (hHeld.2.1)))))), ((cell_far (p := ⟨gb453, _, none⟩) NB405_453.out _).trans (((cell_far (p := ⟨gb453, _, none⟩) NB405_453.out _).trans (((cell_far (p := ⟨gb453, _, none⟩) NB405_453.out _).trans (hHeld.2.2))))))⟩ (fun hHeld => ?_)
  clear hK K
  refine pure_ (i := 10) (N := some 13) (v := ?_) (a' := ?_) #[true, true, true, true, true, true, true, true, true, true, true, false] rfl rfl (any_of HT_.out (by kernel_rfl)) (fun _ _ _ h => h) (Or.inl ⟨by rfl, ?_⟩) ?_ ?_
  rotate_left
  · intro w'
    go_simp
    with_reducible rfl
  rotate_left
  · simp only [Act.put, List.setIfInBounds_toArray, List.set_cons_zero, List.set_cons_succ, i64_w, i32_w]
    rfl
  refine pure_ (i := 11) (N := some 14) (v := ?_) (a' := ?_) #[true, true, true, true, true, true, true, true, true, true, true, true] rfl rfl (any_of HT_.out (by kernel_rfl)) (fun _ _ _ h => h) (Or.inl ⟨by rfl, ?_⟩) ?_ ?_
  rotate_left
  · intro w'
    go_simp
    with_reducible rfl
  rotate_left
  · simp only [Act.put, List.setIfInBounds_toArray, List.set_cons_zero, List.set_cons_succ, i64_w, i32_w]
    rfl
  refine done_ (done_of HT_.out (by kernel_rfl)) ?_
  try go_wp2
  have n0_ : Aside0 (Kd.R k39 39 (((w63.setCell ⟨gb453, 0, none⟩ (.slice Ao64 t442.length co64)).setCell ⟨gb453, 1, none⟩ (.slice Ao66 t445.length co66)).setCell ⟨gb453, 2, none⟩ (.slice Ao68 t448.length co68)) w.heap.size (fun k_ => some k_ ≠ (.slice Ao41 t419.length co41 : Value).ownBlock ∧ some k_ ≠ (.slice Ao51 t430.length co51 : Value).ownBlock ∧ some k_ ≠ (.slice Ao64 t442.length co64 : Value).ownBlock ∧ k_ ≠ gb406) (.slice Ao27 t408.length co27) t408) := ⟨by (with_reducible repeat (first | apply Kd.R_alloc | apply Kd.R_drewN | apply Kd.R_drew)); exact Kd.R_mono (Kd.R_far (p := ⟨gb453, 2, none⟩) (Kd.R_far (p := ⟨gb453, 1, none⟩) (Kd.R_far (p := ⟨gb453, 0, none⟩) (Kd.R_types HO410.out BK453.out (by decide)) (fun _ hk => hk.2) (.slice Ao64 t442.length co64)) (fun _ hk => hk.2) (.slice Ao66 t445.length co66)) (fun _ hk => hk.2) (.slice Ao68 t448.length co68)) (fun _ hk => ⟨hk.1.1, ⟨hk.1.2.1, ⟨hk.1.2.2.1, hk.1.2.2.2⟩⟩⟩)⟩
  have n1_ : Aside0 (Kd.R Kd.string 9 (((w63.setCell ⟨gb453, 0, none⟩ (.slice Ao64 t442.length co64)).setCell ⟨gb453, 1, none⟩ (.slice Ao66 t445.length co66)).setCell ⟨gb453, 2, none⟩ (.slice Ao68 t448.length co68)) w.heap.size (fun k_ => some k_ ≠ (.slice Ao45 t422.length co45 : Value).ownBlock ∧ some k_ ≠ (.slice Ao56 t433.length co56 : Value).ownBlock ∧ some k_ ≠ (.slice Ao66 t445.length co66 : Value).ownBlock) (.slice Ao29 t411.length co29) t411) := ⟨by (with_reducible repeat (first | apply Kd.R_alloc | apply Kd.R_drewN | apply Kd.R_drew)); exact Kd.R_mono (Kd.R_far (p := ⟨gb453, 2, none⟩) (Kd.R_far (p := ⟨gb453, 1, none⟩) (Kd.R_far (p := ⟨gb453, 0, none⟩) (Kd.R_types HO413.out BK453.out (by decide)) (fun _ hk => hk.2) (.slice Ao64 t442.length co64)) (fun _ hk => hk.2) (.slice Ao66 t445.length co66)) (fun _ hk => hk.2) (.slice Ao68 t448.length co68)) (fun _ hk => ⟨hk.1.1, ⟨hk.1.2.1, hk.1.2.2⟩⟩)⟩
  have n2_ : Aside0 (Kd.R (Kd.int .u32) 65 (((w63.setCell ⟨gb453, 0, none⟩ (.slice Ao64 t442.length co64)).setCell ⟨gb453, 1, none⟩ (.slice Ao66 t445.length co66)).setCell ⟨gb453, 2, none⟩ (.slice Ao68 t448.length co68)) w.heap.size (fun k_ => some k_ ≠ (.slice Ao46 t425.length co46 : Value).ownBlock ∧ some k_ ≠ (.slice Ao57 t436.length co57 : Value).ownBlock ∧ some k_ ≠ (.slice Ao68 t448.length co68 : Value).ownBlock) (.slice Ao30 t414.length co30) t414) := ⟨by (with_reducible repeat (first | apply Kd.R_alloc | apply Kd.R_drewN | apply Kd.R_drew)); exact Kd.R_mono (Kd.R_far (p := ⟨gb453, 2, none⟩) (Kd.R_far (p := ⟨gb453, 1, none⟩) (Kd.R_far (p := ⟨gb453, 0, none⟩) (Kd.R_types HO416.out BK453.out (by decide)) (fun _ hk => hk.2) (.slice Ao64 t442.length co64)) (fun _ hk => hk.2) (.slice Ao66 t445.length co66)) (fun _ hk => hk.2) (.slice Ao68 t448.length co68)) (fun _ hk => ⟨hk.1.1, ⟨hk.1.2.1, hk.1.2.2⟩⟩)⟩
  have n3_ : Aside0 (Kd.R k39 39 (((w63.setCell ⟨gb453, 0, none⟩ (.slice Ao64 t442.length co64)).setCell ⟨gb453, 1, none⟩ (.slice Ao66 t445.length co66)).setCell ⟨gb453, 2, none⟩ (.slice Ao68 t448.length co68)) w.heap.size (fun k_ => some k_ ≠ (.slice Ao27 t408.length co27 : Value).ownBlock ∧ some k_ ≠ (.slice Ao51 t430.length co51 : Value).ownBlock ∧ some k_ ≠ (.slice Ao64 t442.length co64 : Value).ownBlock ∧ k_ ≠ gb406) (.slice Ao41 t419.length co41) t419) := ⟨by (with_reducible repeat (first | apply Kd.R_alloc | apply Kd.R_drewN | apply Kd.R_drew)); exact Kd.R_mono (Kd.R_far (p := ⟨gb453, 2, none⟩) (Kd.R_far (p := ⟨gb453, 1, none⟩) (Kd.R_far (p := ⟨gb453, 0, none⟩) (Kd.R_types HO421.out BK453.out (by decide)) (fun _ hk => hk.2) (.slice Ao64 t442.length co64)) (fun _ hk => hk.2) (.slice Ao66 t445.length co66)) (fun _ hk => hk.2) (.slice Ao68 t448.length co68)) (fun _ hk => ⟨hk.1.1, ⟨hk.1.2.1, ⟨hk.1.2.2.1, hk.1.2.2.2⟩⟩⟩)⟩
  have n4_ : Aside0 (Kd.R Kd.string 9 (((w63.setCell ⟨gb453, 0, none⟩ (.slice Ao64 t442.length co64)).setCell ⟨gb453, 1, none⟩ (.slice Ao66 t445.length co66)).setCell ⟨gb453, 2, none⟩ (.slice Ao68 t448.length co68)) w.heap.size (fun k_ => some k_ ≠ (.slice Ao29 t411.length co29 : Value).ownBlock ∧ some k_ ≠ (.slice Ao56 t433.length co56 : Value).ownBlock ∧ some k_ ≠ (.slice Ao66 t445.length co66 : Value).ownBlock) (.slice Ao45 t422.length co45) t422) := ⟨by (with_reducible repeat (first | apply Kd.R_alloc | apply Kd.R_drewN | apply Kd.R_drew)); exact Kd.R_mono (Kd.R_far (p := ⟨gb453, 2, none⟩) (Kd.R_far (p := ⟨gb453, 1, none⟩) (Kd.R_far (p := ⟨gb453, 0, none⟩) (Kd.R_types HO424.out BK453.out (by decide)) (fun _ hk => hk.2) (.slice Ao64 t442.length co64)) (fun _ hk => hk.2) (.slice Ao66 t445.length co66)) (fun _ hk => hk.2) (.slice Ao68 t448.length co68)) (fun _ hk => ⟨hk.1.1, ⟨hk.1.2.1, hk.1.2.2⟩⟩)⟩
  have n5_ : Aside0 (Kd.R (Kd.int .u32) 65 (((w63.setCell ⟨gb453, 0, none⟩ (.slice Ao64 t442.length co64)).setCell ⟨gb453, 1, none⟩ (.slice Ao66 t445.length co66)).setCell ⟨gb453, 2, none⟩ (.slice Ao68 t448.length co68)) w.heap.size (fun k_ => some k_ ≠ (.slice Ao30 t414.length co30 : Value).ownBlock ∧ some k_ ≠ (.slice Ao57 t436.length co57 : Value).ownBlock ∧ some k_ ≠ (.slice Ao68 t448.length co68 : Value).ownBlock) (.slice Ao46 t425.length co46) t425) := ⟨by (with_reducible repeat (first | apply Kd.R_alloc | apply Kd.R_drewN | apply Kd.R_drew)); exact Kd.R_mono (Kd.R_far (p := ⟨gb453, 2, none⟩) (Kd.R_far (p := ⟨gb453, 1, none⟩) (Kd.R_far (p := ⟨gb453, 0, none⟩) (Kd.R_types HO427.out BK453.out (by decide)) (fun _ hk => hk.2) (.slice Ao64 t442.length co64)) (fun _ hk => hk.2) (.slice Ao66 t445.length co66)) (fun _ hk => hk.2) (.slice Ao68 t448.length co68)) (fun _ hk => ⟨hk.1.1, ⟨hk.1.2.1, hk.1.2.2⟩⟩)⟩
  have n6_ : Aside0 (Kd.R k39 39 (((w63.setCell ⟨gb453, 0, none⟩ (.slice Ao64 t442.length co64)).setCell ⟨gb453, 1, none⟩ (.slice Ao66 t445.length co66)).setCell ⟨gb453, 2, none⟩ (.slice Ao68 t448.length co68)) w.heap.size (fun k_ => some k_ ≠ (.slice Ao27 t408.length co27 : Value).ownBlock ∧ some k_ ≠ (.slice Ao41 t419.length co41 : Value).ownBlock ∧ some k_ ≠ (.slice Ao64 t442.length co64 : Value).ownBlock ∧ k_ ≠ gb406) (.slice Ao51 t430.length co51) t430) := ⟨by (with_reducible repeat (first | apply Kd.R_alloc | apply Kd.R_drewN | apply Kd.R_drew)); exact Kd.R_mono (Kd.R_far (p := ⟨gb453, 2, none⟩) (Kd.R_far (p := ⟨gb453, 1, none⟩) (Kd.R_far (p := ⟨gb453, 0, none⟩) (Kd.R_types HO432.out BK453.out (by decide)) (fun _ hk => hk.2) (.slice Ao64 t442.length co64)) (fun _ hk => hk.2) (.slice Ao66 t445.length co66)) (fun _ hk => hk.2) (.slice Ao68 t448.length co68)) (fun _ hk => ⟨hk.1.1, ⟨hk.1.2.1, ⟨hk.1.2.2.1, hk.1.2.2.2⟩⟩⟩)⟩
  have n7_ : Aside0 (Kd.R Kd.string 9 (((w63.setCell ⟨gb453, 0, none⟩ (.slice Ao64 t442.length co64)).setCell ⟨gb453, 1, none⟩ (.slice Ao66 t445.length co66)).setCell ⟨gb453, 2, none⟩ (.slice Ao68 t448.length co68)) w.heap.size (fun k_ => some k_ ≠ (.slice Ao29 t411.length co29 : Value).ownBlock ∧ some k_ ≠ (.slice Ao45 t422.length co45 : Value).ownBlock ∧ some k_ ≠ (.slice Ao66 t445.length co66 : Value).ownBlock) (.slice Ao56 t433.length co56) t433) := ⟨by (with_reducible repeat (first | apply Kd.R_alloc | apply Kd.R_drewN | apply Kd.R_drew)); exact Kd.R_mono (Kd.R_far (p := ⟨gb453, 2, none⟩) (Kd.R_far (p := ⟨gb453, 1, none⟩) (Kd.R_far (p := ⟨gb453, 0, none⟩) (Kd.R_types HO435.out BK453.out (by decide)) (fun _ hk => hk.2) (.slice Ao64 t442.length co64)) (fun _ hk => hk.2) (.slice Ao66 t445.length co66)) (fun _ hk => hk.2) (.slice Ao68 t448.length co68)) (fun _ hk => ⟨hk.1.1, ⟨hk.1.2.1, hk.1.2.2⟩⟩)⟩
  have n8_ : Aside0 (Kd.R (Kd.int .u32) 65 (((w63.setCell ⟨gb453, 0, none⟩ (.slice Ao64 t442.length co64)).setCell ⟨gb453, 1, none⟩ (.slice Ao66 t445.length co66)).setCell ⟨gb453, 2, none⟩ (.slice Ao68 t448.length co68)) w.heap.size (fun k_ => some k_ ≠ (.slice Ao30 t414.length co30 : Value).ownBlock ∧ some k_ ≠ (.slice Ao46 t425.length co46 : Value).ownBlock ∧ some k_ ≠ (.slice Ao68 t448.length co68 : Value).ownBlock) (.slice Ao57 t436.length co57) t436) := ⟨by (with_reducible repeat (first | apply Kd.R_alloc | apply Kd.R_drewN | apply Kd.R_drew)); exact Kd.R_mono (Kd.R_far (p := ⟨gb453, 2, none⟩) (Kd.R_far (p := ⟨gb453, 1, none⟩) (Kd.R_far (p := ⟨gb453, 0, none⟩) (Kd.R_types HO438.out BK453.out (by decide)) (fun _ hk => hk.2) (.slice Ao64 t442.length co64)) (fun _ hk => hk.2) (.slice Ao66 t445.length co66)) (fun _ hk => hk.2) (.slice Ao68 t448.length co68)) (fun _ hk => ⟨hk.1.1, ⟨hk.1.2.1, hk.1.2.2⟩⟩)⟩
  have n9_ : Aside0 (Kd.R k39 39 (((w63.setCell ⟨gb453, 0, none⟩ (.slice Ao64 t442.length co64)).setCell ⟨gb453, 1, none⟩ (.slice Ao66 t445.length co66)).setCell ⟨gb453, 2, none⟩ (.slice Ao68 t448.length co68)) w.heap.size (fun k_ => some k_ ≠ (.slice Ao27 t408.length co27 : Value).ownBlock ∧ some k_ ≠ (.slice Ao41 t419.length co41 : Value).ownBlock ∧ some k_ ≠ (.slice Ao51 t430.length co51 : Value).ownBlock ∧ k_ ≠ gb406) (.slice Ao64 t442.length co64) t442) := ⟨by (with_reducible repeat (first | apply Kd.R_alloc | apply Kd.R_drewN | apply Kd.R_drew)); exact Kd.R_mono (Kd.R_far (p := ⟨gb453, 2, none⟩) (Kd.R_far (p := ⟨gb453, 1, none⟩) (Kd.R_far (p := ⟨gb453, 0, none⟩) (Kd.R_types HO444.out BK453.out (by decide)) (fun _ hk => hk.2) (.slice Ao64 t442.length co64)) (fun _ hk => hk.2) (.slice Ao66 t445.length co66)) (fun _ hk => hk.2) (.slice Ao68 t448.length co68)) (fun _ hk => ⟨hk.1.1, ⟨hk.1.2.1, ⟨hk.1.2.2.1, hk.1.2.2.2⟩⟩⟩)⟩
  have n10_ : Aside0 (Kd.R Kd.string 9 (((w63.setCell ⟨gb453, 0, none⟩ (.slice Ao64 t442.length co64)).setCell ⟨gb453, 1, none⟩ (.slice Ao66 t445.length co66)).setCell ⟨gb453, 2, none⟩ (.slice Ao68 t448.length co68)) w.heap.size (fun k_ => some k_ ≠ (.slice Ao29 t411.length co29 : Value).ownBlock ∧ some k_ ≠ (.slice Ao45 t422.length co45 : Value).ownBlock ∧ some k_ ≠ (.slice Ao56 t433.length co56 : Value).ownBlock) (.slice Ao66 t445.length co66) t445) := ⟨by (with_reducible repeat (first | apply Kd.R_alloc | apply Kd.R_drewN | apply Kd.R_drew)); exact Kd.R_mono (Kd.R_far (p := ⟨gb453, 2, none⟩) (Kd.R_far (p := ⟨gb453, 1, none⟩) (Kd.R_far (p := ⟨gb453, 0, none⟩) (Kd.R_types HO447.out BK453.out (by decide)) (fun _ hk => hk.2) (.slice Ao64 t442.length co64)) (fun _ hk => hk.2) (.slice Ao66 t445.length co66)) (fun _ hk => hk.2) (.slice Ao68 t448.length co68)) (fun _ hk => ⟨hk.1.1, ⟨hk.1.2.1, hk.1.2.2⟩⟩)⟩
  have n11_ : Aside0 (Kd.R (Kd.int .u32) 65 (((w63.setCell ⟨gb453, 0, none⟩ (.slice Ao64 t442.length co64)).setCell ⟨gb453, 1, none⟩ (.slice Ao66 t445.length co66)).setCell ⟨gb453, 2, none⟩ (.slice Ao68 t448.length co68)) w.heap.size (fun k_ => some k_ ≠ (.slice Ao30 t414.length co30 : Value).ownBlock ∧ some k_ ≠ (.slice Ao46 t425.length co46 : Value).ownBlock ∧ some k_ ≠ (.slice Ao57 t436.length co57 : Value).ownBlock) (.slice Ao68 t448.length co68) t448) := ⟨by (with_reducible repeat (first | apply Kd.R_alloc | apply Kd.R_drewN | apply Kd.R_drew)); exact Kd.R_mono (Kd.R_far (p := ⟨gb453, 2, none⟩) (Kd.R_far (p := ⟨gb453, 1, none⟩) (Kd.R_far (p := ⟨gb453, 0, none⟩) (Kd.R_types HO450.out BK453.out (by decide)) (fun _ hk => hk.2) (.slice Ao64 t442.length co64)) (fun _ hk => hk.2) (.slice Ao66 t445.length co66)) (fun _ hk => hk.2) (.slice Ao68 t448.length co68)) (fun _ hk => ⟨hk.1.1, ⟨hk.1.2.1, hk.1.2.2⟩⟩)⟩
  have n12_ : Aside0 ((((w63.setCell ⟨gb453, 0, none⟩ (.slice Ao64 t442.length co64)).setCell ⟨gb453, 1, none⟩ (.slice Ao66 t445.length co66)).setCell ⟨gb453, 2, none⟩ (.slice Ao68 t448.length co68)).heap[gb405]? = some (.cells #[.slice Ao27 t408.length co27, .slice Ao29 t411.length co29, .slice Ao30 t414.length co30] 26 (0, 0))) := ⟨by (with_reducible repeat (first | refine blk_drewN ?_ _ | refine blk_drew ?_ | refine blk_alloc ?_ _)); refine blk_far ?_ NB405_453.out _; (with_reducible repeat (first | refine blk_drewN ?_ _ | refine blk_drew ?_ | refine blk_alloc ?_ _)); refine blk_far ?_ NB405_453.out _; (with_reducible repeat (first | refine blk_drewN ?_ _ | refine blk_drew ?_ | refine blk_alloc ?_ _)); refine blk_far ?_ NB405_453.out _; (with_reducible repeat (first | refine blk_drewN ?_ _ | refine blk_drew ?_ | refine blk_alloc ?_ _)); exact BK405.out⟩
  have n13_ : Aside0 ((((w63.setCell ⟨gb453, 0, none⟩ (.slice Ao64 t442.length co64)).setCell ⟨gb453, 1, none⟩ (.slice Ao66 t445.length co66)).setCell ⟨gb453, 2, none⟩ (.slice Ao68 t448.length co68)).heap[gb406]? = some (.cells #[.string t417, .string t418] 39 (0, 0))) := ⟨by (with_reducible repeat (first | refine blk_drewN ?_ _ | refine blk_drew ?_ | refine blk_alloc ?_ _)); refine blk_far ?_ NB406_453.out _; (with_reducible repeat (first | refine blk_drewN ?_ _ | refine blk_drew ?_ | refine blk_alloc ?_ _)); refine blk_far ?_ NB406_453.out _; (with_reducible repeat (first | refine blk_drewN ?_ _ | refine blk_drew ?_ | refine blk_alloc ?_ _)); refine blk_far ?_ NB406_453.out _; (with_reducible repeat (first | refine blk_drewN ?_ _ | refine blk_drew ?_ | refine blk_alloc ?_ _)); exact BK406.out⟩
  have n14_ : Aside0 ((((w63.setCell ⟨gb453, 0, none⟩ (.slice Ao64 t442.length co64)).setCell ⟨gb453, 1, none⟩ (.slice Ao66 t445.length co66)).setCell ⟨gb453, 2, none⟩ (.slice Ao68 t448.length co68)).heap[gb429]? = some (.cells #[.slice Ao41 t419.length co41, .slice Ao45 t422.length co45, .slice Ao46 t425.length co46] 26 (0, 0))) := ⟨by (with_reducible repeat (first | refine blk_drewN ?_ _ | refine blk_drew ?_ | refine blk_alloc ?_ _)); refine blk_far ?_ NB429_453.out _; (with_reducible repeat (first | refine blk_drewN ?_ _ | refine blk_drew ?_ | refine blk_alloc ?_ _)); refine blk_far ?_ NB429_453.out _; (with_reducible repeat (first | refine blk_drewN ?_ _ | refine blk_drew ?_ | refine blk_alloc ?_ _)); refine blk_far ?_ NB429_453.out _; (with_reducible repeat (first | refine blk_drewN ?_ _ | refine blk_drew ?_ | refine blk_alloc ?_ _)); exact BK429.out⟩
  have n15_ : Aside0 ((((w63.setCell ⟨gb453, 0, none⟩ (.slice Ao64 t442.length co64)).setCell ⟨gb453, 1, none⟩ (.slice Ao66 t445.length co66)).setCell ⟨gb453, 2, none⟩ (.slice Ao68 t448.length co68)).heap[gb440]? = some (.cells #[.slice Ao51 t430.length co51, .slice Ao56 t433.length co56, .slice Ao57 t436.length co57] 26 (0, 0))) := ⟨by (with_reducible repeat (first | refine blk_drewN ?_ _ | refine blk_drew ?_ | refine blk_alloc ?_ _)); refine blk_far ?_ NB440_453.out _; (with_reducible repeat (first | refine blk_drewN ?_ _ | refine blk_drew ?_ | refine blk_alloc ?_ _)); refine blk_far ?_ NB440_453.out _; (with_reducible repeat (first | refine blk_drewN ?_ _ | refine blk_drew ?_ | refine blk_alloc ?_ _)); refine blk_far ?_ NB440_453.out _; (with_reducible repeat (first | refine blk_drewN ?_ _ | refine blk_drew ?_ | refine blk_alloc ?_ _)); exact BK440.out⟩
  have n16_ : Aside0 ((((w63.setCell ⟨gb453, 0, none⟩ (.slice Ao64 t442.length co64)).setCell ⟨gb453, 1, none⟩ (.slice Ao66 t445.length co66)).setCell ⟨gb453, 2, none⟩ (.slice Ao68 t448.length co68)).heap[gb453]? = some (.cells #[.slice Ao64 t442.length co64, .slice Ao66 t445.length co66, .slice Ao68 t448.length co68] 26 (0, 0))) := ⟨by (with_reducible repeat (first | refine blk_drewN ?_ _ | refine blk_drew ?_ | refine blk_alloc ?_ _)); refine blk_put (cs := #[.slice Ao64 t442.length co64, .slice Ao66 t445.length co66, .slice none 0 0]) ?_ 2 _ rfl; (with_reducible repeat (first | refine blk_drewN ?_ _ | refine blk_drew ?_ | refine blk_alloc ?_ _)); refine blk_put (cs := #[.slice Ao64 t442.length co64, .slice none 0 0, .slice none 0 0]) ?_ 1 _ rfl; (with_reducible repeat (first | refine blk_drewN ?_ _ | refine blk_drew ?_ | refine blk_alloc ?_ _)); refine blk_put (cs := #[.slice none 0 0, .slice none 0 0, .slice none 0 0]) ?_ 0 _ rfl; (with_reducible repeat (first | refine blk_drewN ?_ _ | refine blk_drew ?_ | refine blk_alloc ?_ _)); exact BK453.out⟩
  have n17_ : Aside0 (Below w.heap.size w (((w63.setCell ⟨gb453, 0, none⟩ (.slice Ao64 t442.length co64)).setCell ⟨gb453, 1, none⟩ (.slice Ao66 t445.length co66)).setCell ⟨gb453, 2, none⟩ (.slice Ao68 t448.length co68))) := ⟨by repeat (first | (with_reducible first | exact HB.out | apply below_alloc | apply pw_below_drewN | apply below_drew1 | refine below_set ?_ GE405.out | refine below_set ?_ GE406.out | refine below_set ?_ GE429.out | refine below_set ?_ GE440.out | refine below_set ?_ GE453.out) | exact HB.out)⟩
  (try clear HO410)
  (try clear HO413)
  (try clear HO416)
  (try clear HO421)
  (try clear HO424)
  (try clear HO427)
  (try clear HO432)
  (try clear HO435)
  (try clear HO438)
  (try clear HO444)
  (try clear HO447)
  (try clear HO450)
  (try clear BK405)
  (try clear BK406)
  (try clear BK429)
  (try clear BK440)
  (try clear BK453)
  (try clear HB)
  generalize (((w63.setCell ⟨gb453, 0, none⟩ (.slice Ao64 t442.length co64)).setCell ⟨gb453, 1, none⟩ (.slice Ao66 t445.length co66)).setCell ⟨gb453, 2, none⟩ (.slice Ao68 t448.length co68)) = w70 at n0_ n1_ n2_ n3_ n4_ n5_ n6_ n7_ n8_ n9_ n10_ n11_ n12_ n13_ n14_ n15_ n16_ n17_ ⊢
  have HO410 := n0_
  have HO413 := n1_
  have HO416 := n2_
  have HO421 := n3_
  have HO424 := n4_
  have HO427 := n5_
  have HO432 := n6_
  have HO435 := n7_
  have HO438 := n8_
  have HO444 := n9_
  have HO447 := n10_
  have HO450 := n11_
  have BK405 := n12_
  have BK406 := n13_
  have BK429 := n14_
  have BK440 := n15_
  have BK453 := n16_
  have HB := n17_
  clear n0_ n1_ n2_ n3_ n4_ n5_ n6_ n7_ n8_ n9_ n10_ n11_ n12_ n13_ n14_ n15_ n16_ n17_
  replace HO410 := Aside0.mk (Kd.R_drew HO410.out)
  replace HO413 := Aside0.mk (Kd.R_drew HO413.out)
  replace HO416 := Aside0.mk (Kd.R_drew HO416.out)
  replace HO421 := Aside0.mk (Kd.R_drew HO421.out)
  replace HO424 := Aside0.mk (Kd.R_drew HO424.out)
  replace HO427 := Aside0.mk (Kd.R_drew HO427.out)
  replace HO432 := Aside0.mk (Kd.R_drew HO432.out)
  replace HO435 := Aside0.mk (Kd.R_drew HO435.out)
  replace HO438 := Aside0.mk (Kd.R_drew HO438.out)
  replace HO444 := Aside0.mk (Kd.R_drew HO444.out)
  replace HO447 := Aside0.mk (Kd.R_drew HO447.out)
  replace HO450 := Aside0.mk (Kd.R_drew HO450.out)
  replace BK405 := Aside0.mk (blk_drew BK405.out)
  replace BK406 := Aside0.mk (blk_drew BK406.out)
  replace BK429 := Aside0.mk (blk_drew BK429.out)
  replace BK440 := Aside0.mk (blk_drew BK440.out)
  replace BK453 := Aside0.mk (blk_drew BK453.out)
  replace HB := Aside0.mk (below_drew1 HB.out)
  refine start_ (n := 12) (S := fun w' => w'.cell? ⟨gb405, 0, none⟩ = some (.slice Ao27 t408.length co27) ∧ w'.cell? ⟨gb405, 1, none⟩ = some (.slice Ao29 t411.length co29) ∧ w'.cell? ⟨gb405, 2, none⟩ = some (.slice Ao30 t414.length co30)) (ds := []) #[false, false, false, false, false, false, false, false, false, false, false, false] (by kernel_rfl) rfl rfl ⟨(blk_cell BK405.out 0).trans rfl, (blk_cell BK405.out 1).trans rfl, (blk_cell BK405.out 2).trans rfl⟩ (fun hHeld => ?_); refine with_tabW bazaarlaw06_NodePuts.tab7 bazaarlaw06_NodePuts.bits7 (fun HT_ HW_ => ?_)
  generalize w70.drew = w71 at HO410 HO413 HO416 HO421 HO424 HO427 HO432 HO435 HO438 HO444 HO447 HO450 BK405 BK406 BK429 BK440 BK453 HB hHeld ⊢
  refine pure_ (i := 1) (N := some 50) (v := ?_) (a' := ?_) #[false, true, false, false, false, false, false, false, false, false, false, false] rfl rfl (any_of HT_.out (by kernel_rfl)) (fun _ _ _ h => h) (Or.inl ⟨by rfl, ?_⟩) ?_ ?_
  rotate_left
  · intro w'
    go_simp
    with_reducible rfl
  rotate_left
  · simp only [Act.put, List.setIfInBounds_toArray, List.set_cons_zero, List.set_cons_succ, i64_w, i32_w]
    rfl
  refine take_ (i := 0) (N := some 49) (v := ?_) (a' := ?_) #[true, true, false, false, false, false, false, false, false, false, false, false] rfl rfl (take_ofW HT_.out HW_.out (by kernel_rfl)) (fun _ _ _ h => h) (Or.inl ⟨by rfl, ?_⟩) hHeld ?_ ?_
  rotate_left
  · rintro w' ⟨s0, s1, s2⟩
    go_simp
    with_reducible rfl
  rotate_left
  · simp only [Act.put, List.setIfInBounds_toArray, List.set_cons_zero, List.set_cons_succ, i64_w, i32_w]
    rfl
  refine join_ (σ := Value × Value × Value × Nat) 3 #[true, true, true, true, true, true, true, true, true, false, false, false] (fun s_ => [(51, .string t454), (52, .tuple #[.agg #[s_.1, s_.2.1, s_.2.2.1], .bool t464, .int .i64 t465]), (15, .pointer (some ⟨s_.2.2.2, 0, none⟩)), (48, .tuple #[.agg #[s_.1, s_.2.1, s_.2.2.1], .bool t464, .int .i64 t465]), (53, .agg #[s_.1, s_.2.1, s_.2.2.1]), (54, .bool t464), (55, .int .i64 t465)]) (fun s_ w' => (w'.cell? ⟨gb405, 0, none⟩ = some (.slice Ao27 t408.length co27) ∧ w'.cell? ⟨gb405, 1, none⟩ = some (.slice Ao29 t411.length co29) ∧ w'.cell? ⟨gb405, 2, none⟩ = some (.slice Ao30 t414.length co30)) ∧ (Kd.R k39 39 w' w.heap.size (fun k_ => some k_ ≠ (.slice Ao41 t419.length co41 : Value).ownBlock ∧ some k_ ≠ (.slice Ao51 t430.length co51 : Value).ownBlock ∧ some k_ ≠ (.slice Ao64 t442.length co64 : Value).ownBlock ∧ some k_ ≠ (s_.1 : Value).ownBlock ∧ k_ ≠ gb406) (.slice Ao27 t408.length co27) t408) ∧ (Kd.R Kd.string 9 w' w.heap.size (fun k_ => some k_ ≠ (.slice Ao45 t422.length co45 : Value).ownBlock ∧ some k_ ≠ (.slice Ao56 t433.length co56 : Value).ownBlock ∧ some k_ ≠ (.slice Ao66 t445.length co66 : Value).ownBlock ∧ some k_ ≠ (s_.2.1 : Value).ownBlock) (.slice Ao29 t411.length co29) t411) ∧ (Kd.R (Kd.int .u32) 65 w' w.heap.size (fun k_ => some k_ ≠ (.slice Ao46 t425.length co46 : Value).ownBlock ∧ some k_ ≠ (.slice Ao57 t436.length co57 : Value).ownBlock ∧ some k_ ≠ (.slice Ao68 t448.length co68 : Value).ownBlock ∧ some k_ ≠ (s_.2.2.1 : Value).ownBlock) (.slice Ao30 t414.length co30) t414) ∧ (Kd.R k39 39 w' w.heap.size (fun k_ => some k_ ≠ (.slice Ao27 t408.length co27 : Value).ownBlock ∧ some k_ ≠ (.slice Ao51 t430.length co51 : Value).ownBlock ∧ some k_ ≠ (.slice Ao64 t442.length co64 : Value).ownBlock ∧ some k_ ≠ (s_.1 : Value).ownBlock ∧ k_ ≠ gb406) (.slice Ao41 t419.length co41) t419) ∧ (Kd.R Kd.string 9 w' w.heap.size (fun k_ => some k_ ≠ (.slice Ao29 t411.length co29 : Value).ownBlock ∧ some k_ ≠ (.slice Ao56 t433.length co56 : Value).ownBlock ∧ some k_ ≠ (.slice Ao66 t445.length co66 : Value).ownBlock ∧ some k_ ≠ (s_.2.1 : Value).ownBlock) (.slice Ao45 t422.length co45) t422) ∧ (Kd.R (Kd.int .u32) 65 w' w.heap.size (fun k_ => some k_ ≠ (.slice Ao30 t414.length co30 : Value).ownBlock ∧ some k_ ≠ (.slice Ao57 t436.length co57 : Value).ownBlock ∧ some k_ ≠ (.slice Ao68 t448.length co68 : Value).ownBlock ∧ some k_ ≠ (s_.2.2.1 : Value).ownBlock) (.slice Ao46 t425.length co46) t425) ∧ (Kd.R k39 39 w' w.heap.size (fun k_ => some k_ ≠ (.slice Ao27 t408.length co27 : Value).ownBlock ∧ some k_ ≠ (.slice Ao41 t419.length co41 : Value).ownBlock ∧ some k_ ≠ (.slice Ao64 t442.length co64 : Value).ownBlock ∧ some k_ ≠ (s_.1 : Value).ownBlock ∧ k_ ≠ gb406) (.slice Ao51 t430.length co51) t430) ∧ (Kd.R Kd.string 9 w' w.heap.size (fun k_ => some k_ ≠ (.slice Ao29 t411.length co29 : Value).ownBlock ∧ some k_ ≠ (.slice Ao45 t422.length co45 : Value).ownBlock ∧ some k_ ≠ (.slice Ao66 t445.length co66 : Value).ownBlock ∧ some k_ ≠ (s_.2.1 : Value).ownBlock) (.slice Ao56 t433.length co56) t433) ∧ (Kd.R (Kd.int .u32) 65 w' w.heap.size (fun k_ => some k_ ≠ (.slice Ao30 t414.length co30 : Value).ownBlock ∧ some k_ ≠ (.slice Ao46 t425.length co46 : Value).ownBlock ∧ some k_ ≠ (.slice Ao68 t448.length co68 : Value).ownBlock ∧ some k_ ≠ (s_.2.2.1 : Value).ownBlock) (.slice Ao57 t436.length co57) t436) ∧ (Kd.R k39 39 w' w.heap.size (fun k_ => some k_ ≠ (.slice Ao27 t408.length co27 : Value).ownBlock ∧ some k_ ≠ (.slice Ao41 t419.length co41 : Value).ownBlock ∧ some k_ ≠ (.slice Ao51 t430.length co51 : Value).ownBlock ∧ some k_ ≠ (s_.1 : Value).ownBlock ∧ k_ ≠ gb406) (.slice Ao64 t442.length co64) t442) ∧ (Kd.R Kd.string 9 w' w.heap.size (fun k_ => some k_ ≠ (.slice Ao29 t411.length co29 : Value).ownBlock ∧ some k_ ≠ (.slice Ao45 t422.length co45 : Value).ownBlock ∧ some k_ ≠ (.slice Ao56 t433.length co56 : Value).ownBlock ∧ some k_ ≠ (s_.2.1 : Value).ownBlock) (.slice Ao66 t445.length co66) t445) ∧ (Kd.R (Kd.int .u32) 65 w' w.heap.size (fun k_ => some k_ ≠ (.slice Ao30 t414.length co30 : Value).ownBlock ∧ some k_ ≠ (.slice Ao46 t425.length co46 : Value).ownBlock ∧ some k_ ≠ (.slice Ao57 t436.length co57 : Value).ownBlock ∧ some k_ ≠ (s_.2.2.1 : Value).ownBlock) (.slice Ao68 t448.length co68) t448) ∧ (Kd.R k39 39 w' w.heap.size (fun k_ => some k_ ≠ (.slice Ao27 t408.length co27 : Value).ownBlock ∧ some k_ ≠ (.slice Ao41 t419.length co41 : Value).ownBlock ∧ some k_ ≠ (.slice Ao51 t430.length co51 : Value).ownBlock ∧ some k_ ≠ (.slice Ao64 t442.length co64 : Value).ownBlock ∧ k_ ≠ gb406) s_.1 t455) ∧ (Kd.R Kd.string 9 w' w.heap.size (fun k_ => some k_ ≠ (.slice Ao29 t411.length co29 : Value).ownBlock ∧ some k_ ≠ (.slice Ao45 t422.length co45 : Value).ownBlock ∧ some k_ ≠ (.slice Ao56 t433.length co56 : Value).ownBlock ∧ some k_ ≠ (.slice Ao66 t445.length co66 : Value).ownBlock) s_.2.1 t458) ∧ (Kd.R (Kd.int .u32) 65 w' w.heap.size (fun k_ => some k_ ≠ (.slice Ao30 t414.length co30 : Value).ownBlock ∧ some k_ ≠ (.slice Ao46 t425.length co46 : Value).ownBlock ∧ some k_ ≠ (.slice Ao57 t436.length co57 : Value).ownBlock ∧ some k_ ≠ (.slice Ao68 t448.length co68 : Value).ownBlock) s_.2.2.1 t461) ∧ (w'.heap[gb405]? = some (.cells #[.slice Ao27 t408.length co27, .slice Ao29 t411.length co29, .slice Ao30 t414.length co30] 26 (0, 0))) ∧ (w'.heap[gb406]? = some (.cells #[.string t417, .string t418] 39 (0, 0))) ∧ (w'.heap[gb429]? = some (.cells #[.slice Ao41 t419.length co41, .slice Ao45 t422.length co45, .slice Ao46 t425.length co46] 26 (0, 0))) ∧ (w'.heap[gb440]? = some (.cells #[.slice Ao51 t430.length co51, .slice Ao56 t433.length co56, .slice Ao57 t436.length co57] 26 (0, 0))) ∧ (w'.heap[gb453]? = some (.cells #[.slice Ao64 t442.length co64, .slice Ao66 t445.length co66, .slice Ao68 t448.length co68] 26 (0, 0))) ∧ (w'.heap[s_.2.2.2]? = some (.cells #[.slice none 0 0, .slice none 0 0, .slice none 0 0] 26 (0, 0))) ∧ (w.heap.size ≤ s_.2.2.2) ∧ (w.heap.size ≤ s_.2.2.2) ∧ (gb405 ≠ s_.2.2.2) ∧ (s_.2.2.2 ≠ gb405) ∧ (gb406 ≠ s_.2.2.2) ∧ (s_.2.2.2 ≠ gb406) ∧ (gb429 ≠ s_.2.2.2) ∧ (s_.2.2.2 ≠ gb429) ∧ (gb440 ≠ s_.2.2.2) ∧ (s_.2.2.2 ≠ gb440) ∧ (gb453 ≠ s_.2.2.2) ∧ (s_.2.2.2 ≠ gb453) ∧ (Below w.heap.size w w')) ?_ ?_
  rotate_left
  · intro hCont
    refine two_ (i := 2) (j := 8) (Ni := some 51) (Nj := some 15) #[true, true, true, false, false, false, false, false, false, false, false, false] #[true, true, false, false, false, false, false, false, true, false, false, false] rfl rfl rfl rfl (two_of HT_.out (by kernel_rfl)) (by decide) (by decide) (fun K hK => ?_) (fun K hK => ?_)
    · skip
      refine goes_ Try.func19 (by kernel_rfl) rfl #[.string a2] (by rfl) rfl rfl (by (try simp only [List.map_toArray, List.map_cons, List.map_nil]); first | done | rfl | (simp only [List.length_drop, List.length_take]; rfl)) ?_
      with_reducible refine (bazaarlaw06_text.calls a2 t454 _ A12.out).mono ?_
      rintro e w72 ⟨rfl, hb⟩
      refine ⟨_, rfl, ?_⟩
      replace HO410 := Aside0.mk (Kd.R_below (R_ HO410.out) hb)
      replace HO413 := Aside0.mk (Kd.R_below (R_ HO413.out) hb)
      replace HO416 := Aside0.mk (Kd.R_below (R_ HO416.out) hb)
      replace HO421 := Aside0.mk (Kd.R_below (R_ HO421.out) hb)
      replace HO424 := Aside0.mk (Kd.R_below (R_ HO424.out) hb)
      replace HO427 := Aside0.mk (Kd.R_below (R_ HO427.out) hb)
      replace HO432 := Aside0.mk (Kd.R_below (R_ HO432.out) hb)
      replace HO435 := Aside0.mk (Kd.R_below (R_ HO435.out) hb)
      replace HO438 := Aside0.mk (Kd.R_below (R_ HO438.out) hb)
      replace HO444 := Aside0.mk (Kd.R_below (R_ HO444.out) hb)
      replace HO447 := Aside0.mk (Kd.R_below (R_ HO447.out) hb)
      replace HO450 := Aside0.mk (Kd.R_below (R_ HO450.out) hb)
      replace BK405 := Aside0.mk (blk_below (g := gb405) (o := .cells #[.slice Ao27 t408.length co27, .slice Ao29 t411.length co29, .slice Ao30 t414.length co30] 26 (0, 0)) (B_ BK405.out) hb)
      replace BK406 := Aside0.mk (blk_below (g := gb406) (o := .cells #[.string t417, .string t418] 39 (0, 0)) (B_ BK406.out) hb)
      replace BK429 := Aside0.mk (blk_below (g := gb429) (o := .cells #[.slice Ao41 t419.length co41, .slice Ao45 t422.length co45, .slice Ao46 t425.length co46] 26 (0, 0)) (B_ BK429.out) hb)
      replace BK440 := Aside0.mk (blk_below (g := gb440) (o := .cells #[.slice Ao51 t430.length co51, .slice Ao56 t433.length co56, .slice Ao57 t436.length co57] 26 (0, 0)) (B_ BK440.out) hb)
      replace BK453 := Aside0.mk (blk_below (g := gb453) (o := .cells #[.slice Ao64 t442.length co64, .slice Ao66 t445.length co66, .slice Ao68 t448.length co68] 26 (0, 0)) (B_ BK453.out) hb)
      replace HB := Aside0.mk (below_step (L_ HB.out) hb)
      (try clear hb)
      (try clear hb2)
      (try clear hk)
      (try clear hi)
      refine hK.out _ _ ⟨(blk_cell BK405.out 0).trans rfl, (blk_cell BK405.out 1).trans rfl, (blk_cell BK405.out 2).trans rfl⟩ (fun hHeld => ?_)
      clear hK K
      refine norm_ (a' := ?_) ?_ ?_
      rotate_left
      · show Act.put _ (some 51) _ = _
        simp only [Act.put, List.setIfInBounds_toArray, List.set_cons_zero, List.set_cons_succ, i64_w, i32_w]
        rfl
      refine two_ (i := 3) (j := 8) (Ni := some 52) (Nj := some 15) #[true, true, true, true, false, false, false, false, false, false, false, false] #[true, true, true, false, false, false, false, false, true, false, false, false] rfl rfl rfl rfl (two_of HT_.out (by kernel_rfl)) (by decide) (by decide) (fun K hK => ?_) (fun K hK => ?_)
      · skip
        refine goes_ Try.func25 (by kernel_rfl) rfl #[.agg #[.slice Ao27 t408.length co27, .slice Ao29 t411.length co29, .slice Ao30 t414.length co30], .string t454] (by rfl) rfl rfl (by (try simp only [List.map_toArray, List.map_cons, List.map_nil]); first | done | rfl | (simp only [List.length_drop, List.length_take]; rfl)) ?_
        with_reducible refine (bazaarref06_Delete.calls k _ _ t408 _ _ t411 _ _ t414 t454 t455 t458 t461 t464 t465 _ ?side1 ?side2 ?side3 ?side4 ?side5 ?side6 A13.out).mono ?_
        (case side1 => repeat (first | exact (Kd.R_reads' HO410.out).2.2 | (with_reducible refine Kd.C_alloc ?_ _) | (with_reducible refine Kd.C_drewN ?_ _) | (with_reducible refine Kd.C_drew ?_)))
        (case side2 => exact (Kd.R_reads' HO410.out).2.1)
        (case side3 => repeat (first | exact (Kd.R_reads' HO413.out).2.2 | (with_reducible refine Kd.C_alloc ?_ _) | (with_reducible refine Kd.C_drewN ?_ _) | (with_reducible refine Kd.C_drew ?_)))
        (case side4 => exact (Kd.R_reads' HO413.out).2.1)
        (case side5 => repeat (first | exact (Kd.R_reads' HO416.out).2.2 | (with_reducible refine Kd.C_alloc ?_ _) | (with_reducible refine Kd.C_drewN ?_ _) | (with_reducible refine Kd.C_drew ?_)))
        (case side6 => exact (Kd.R_reads' HO416.out).2.1)
        rintro e w73 ⟨v456, v459, v462, rfl, ho0, ho1, ho2, hb⟩
        refine ⟨_, rfl, ?_⟩
        have HO457 := Aside0.mk (Kd.R_lower (Kd.R_newB (Kd.R_new' (Kd.R_new' (Kd.R_new' (Kd.R_new' ho0 (Kd.R_lt (R_ HO410.out))) (Kd.R_lt (R_ HO421.out))) (Kd.R_lt (R_ HO432.out))) (Kd.R_lt (R_ HO444.out))) (g := gb406) (o := .cells #[.string t417, .string t418] 39 (0, 0)) (B_ BK406.out)) (below_size (L_ HB.out)))
        have HO460 := Aside0.mk (Kd.R_lower (Kd.R_new' (Kd.R_new' (Kd.R_new' (Kd.R_new' ho1 (Kd.R_lt (R_ HO413.out))) (Kd.R_lt (R_ HO424.out))) (Kd.R_lt (R_ HO435.out))) (Kd.R_lt (R_ HO447.out))) (below_size (L_ HB.out)))
        have HO463 := Aside0.mk (Kd.R_lower (Kd.R_new' (Kd.R_new' (Kd.R_new' (Kd.R_new' ho2 (Kd.R_lt (R_ HO416.out))) (Kd.R_lt (R_ HO427.out))) (Kd.R_lt (R_ HO438.out))) (Kd.R_lt (R_ HO450.out))) (below_size (L_ HB.out)))
        replace HO410 := Aside0.mk (Kd.R_elder' (R_ HO410.out) (Kd.R_base ho0) hb)
        replace HO413 := Aside0.mk (Kd.R_elder' (R_ HO413.out) (Kd.R_base ho1) hb)
        replace HO416 := Aside0.mk (Kd.R_elder' (R_ HO416.out) (Kd.R_base ho2) hb)
        replace HO421 := Aside0.mk (Kd.R_elder' (R_ HO421.out) (Kd.R_base ho0) hb)
        replace HO424 := Aside0.mk (Kd.R_elder' (R_ HO424.out) (Kd.R_base ho1) hb)
        replace HO427 := Aside0.mk (Kd.R_elder' (R_ HO427.out) (Kd.R_base ho2) hb)
        replace HO432 := Aside0.mk (Kd.R_elder' (R_ HO432.out) (Kd.R_base ho0) hb)
        replace HO435 := Aside0.mk (Kd.R_elder' (R_ HO435.out) (Kd.R_base ho1) hb)
        replace HO438 := Aside0.mk (Kd.R_elder' (R_ HO438.out) (Kd.R_base ho2) hb)
        replace HO444 := Aside0.mk (Kd.R_elder' (R_ HO444.out) (Kd.R_base ho0) hb)
        replace HO447 := Aside0.mk (Kd.R_elder' (R_ HO447.out) (Kd.R_base ho1) hb)
        replace HO450 := Aside0.mk (Kd.R_elder' (R_ HO450.out) (Kd.R_base ho2) hb)
        replace BK405 := Aside0.mk (blk_below (g := gb405) (o := .cells #[.slice Ao27 t408.length co27, .slice Ao29 t411.length co29, .slice Ao30 t414.length co30] 26 (0, 0)) (B_ BK405.out) hb)
        replace BK406 := Aside0.mk (blk_below (g := gb406) (o := .cells #[.string t417, .string t418] 39 (0, 0)) (B_ BK406.out) hb)
        replace BK429 := Aside0.mk (blk_below (g := gb429) (o := .cells #[.slice Ao41 t419.length co41, .slice Ao45 t422.length co45, .slice Ao46 t425.length co46] 26 (0, 0)) (B_ BK429.out) hb)
        replace BK440 := Aside0.mk (blk_below (g := gb440) (o := .cells #[.slice Ao51 t430.length co51, .slice Ao56 t433.length co56, .slice Ao57 t436.length co57] 26 (0, 0)) (B_ BK440.out) hb)
        replace BK453 := Aside0.mk (blk_below (g := gb453) (o := .cells #[.slice Ao64 t442.length co64, .slice Ao66 t445.length co66, .slice Ao68 t448.length co68] 26 (0, 0)) (B_ BK453.out) hb)
        replace HB := Aside0.mk (below_step (L_ HB.out) hb)
        (try clear hb)
        (try clear hb2)
        (try clear hk)
        (try clear hi)
        (try clear ho0)
        (try clear ho1)
        (try clear ho2)
        refine hK.out _ _ ⟨(blk_cell BK405.out 0).trans rfl, (blk_cell BK405.out 1).trans rfl, (blk_cell BK405.out 2).trans rfl⟩ (fun hHeld => ?_)
        clear hK K
        refine norm_ (a' := ?_) ?_ ?_
        rotate_left
        · show Act.put _ (some 52) _ = _
          simp only [Act.put, List.setIfInBounds_toArray, List.set_cons_zero, List.set_cons_succ, i64_w, i32_w]
          rfl
        refine pure_ (i := 4) (N := some 48) (v := ?_) (a' := ?_) #[true, true, true, true, true, false, false, false, false, false, false, false] rfl rfl (any_of HT_.out (by kernel_rfl)) (fun _ _ _ h => h) (Or.inl ⟨by rfl, ?_⟩) ?_ ?_
        rotate_left
        · intro w'
          go_simp
          with_reducible rfl
        rotate_left
        · simp only [Act.put, List.setIfInBounds_toArray, List.set_cons_zero, List.set_cons_succ, i64_w, i32_w]
          rfl
        refine pure_ (i := 5) (N := some 53) (v := ?_) (a' := ?_) #[true, true, true, true, true, true, false, false, false, false, false, false] rfl rfl (any_of HT_.out (by kernel_rfl)) (fun _ _ _ h => h) (Or.inl ⟨by rfl, ?_⟩) ?_ ?_
        rotate_left
        · intro w'
          go_simp
          with_reducible rfl
        rotate_left
        · simp only [Act.put, List.setIfInBounds_toArray, List.set_cons_zero, List.set_cons_succ, i64_w, i32_w]
          rfl
        refine pure_ (i := 6) (N := some 54) (v := ?_) (a' := ?_) #[true, true, true, true, true, true, true, false, false, false, false, false] rfl rfl (any_of HT_.out (by kernel_rfl)) (fun _ _ _ h => h) (Or.inl ⟨by rfl, ?_⟩) ?_ ?_
        rotate_left
        · intro w'
          go_simp
          with_reducible rfl
        rotate_left
        · simp only [Act.put, List.setIfInBounds_toArray, List.set_cons_zero, List.set_cons_succ, i64_w, i32_w]
          rfl
        refine pure_ (i := 7) (N := some 55) (v := ?_) (a' := ?_) #[true, true, true, true, true, true, true, true, false, false, false, false] rfl rfl (any_of HT_.out (by kernel_rfl)) (fun _ _ _ h => h) (Or.inl ⟨by rfl, ?_⟩) ?_ ?_
        rotate_left
        · intro w'
          go_simp
          with_reducible rfl
        rotate_left
        · simp only [Act.put, List.setIfInBounds_toArray, List.set_cons_zero, List.set_cons_succ, i64_w, i32_w]
          rfl
        refine one_ (i := 8) (N := some 15) #[true, true, true, true, true, true, true, true, true, false, false, false] rfl rfl (one_of HT_.out (by kernel_rfl)) (by decide) (fun K hK => ?_)
        refine box_step ?hg (N := 15) ?hd (cs := #[.slice none 0 0, .slice none 0 0, .slice none 0 0]) (t := 26) ?hr ?_; (case hd => rfl); (case hg => rfl); (case hr => first | (go_simp; done) | (go_simp; rfl))
        intro gb466 hg w74 hbox hb
        have BK466 := Aside0.mk (hbox)
        have GW466 := Aside0.mk ((by rw [hg]; exact (below_size (L_ HB.out)) : w.heap.size ≤ gb466))
        have GE466 := Aside0.mk ((by rw [hg]; exact (below_size (L_ HB.out)) : w.heap.size ≤ gb466))
        have NB405_466 := Aside0.mk ((by rw [hg]; exact Nat.ne_of_lt (blk_lt (g := gb405) (o := .cells #[.slice Ao27 t408.length co27, .slice Ao29 t411.length co29, .slice Ao30 t414.length co30] 26 (0, 0)) (B_ BK405.out)) : gb405 ≠ gb466))
        have NB466_405 := Aside0.mk ((by rw [hg]; exact Nat.ne_of_gt (blk_lt (g := gb405) (o := .cells #[.slice Ao27 t408.length co27, .slice Ao29 t411.length co29, .slice Ao30 t414.length co30] 26 (0, 0)) (B_ BK405.out)) : gb466 ≠ gb405))
        have NB406_466 := Aside0.mk ((by rw [hg]; exact Nat.ne_of_lt (blk_lt (g := gb406) (o := .cells #[.string t417, .string t418] 39 (0, 0)) (B_ BK406.out)) : gb406 ≠ gb466))
        have NB466_406 := Aside0.mk ((by rw [hg]; exact Nat.ne_of_gt (blk_lt (g := gb406) (o := .cells #[.string t417, .string t418] 39 (0, 0)) (B_ BK406.out)) : gb466 ≠ gb406))
        have NB429_466 := Aside0.mk ((by rw [hg]; exact Nat.ne_of_lt (blk_lt (g := gb429) (o := .cells #[.slice Ao41 t419.length co41, .slice Ao45 t422.length co45, .slice Ao46 t425.length co46] 26 (0, 0)) (B_ BK429.out)) : gb429 ≠ gb466))
        have NB466_429 := Aside0.mk ((by rw [hg]; exact Nat.ne_of_gt (blk_lt (g := gb429) (o := .cells #[.slice Ao41 t419.length co41, .slice Ao45 t422.length co45, .slice Ao46 t425.length co46] 26 (0, 0)) (B_ BK429.out)) : gb466 ≠ gb429))
        have NB440_466 := Aside0.mk ((by rw [hg]; exact Nat.ne_of_lt (blk_lt (g := gb440) (o := .cells #[.slice Ao51 t430.length co51, .slice Ao56 t433.length co56, .slice Ao57 t436.length co57] 26 (0, 0)) (B_ BK440.out)) : gb440 ≠ gb466))
        have NB466_440 := Aside0.mk ((by rw [hg]; exact Nat.ne_of_gt (blk_lt (g := gb440) (o := .cells #[.slice Ao51 t430.length co51, .slice Ao56 t433.length co56, .slice Ao57 t436.length co57] 26 (0, 0)) (B_ BK440.out)) : gb466 ≠ gb440))
        have NB453_466 := Aside0.mk ((by rw [hg]; exact Nat.ne_of_lt (blk_lt (g := gb453) (o := .cells #[.slice Ao64 t442.length co64, .slice Ao66 t445.length co66, .slice Ao68 t448.length co68] 26 (0, 0)) (B_ BK453.out)) : gb453 ≠ gb466))
        have NB466_453 := Aside0.mk ((by rw [hg]; exact Nat.ne_of_gt (blk_lt (g := gb453) (o := .cells #[.slice Ao64 t442.length co64, .slice Ao66 t445.length co66, .slice Ao68 t448.length co68] 26 (0, 0)) (B_ BK453.out)) : gb466 ≠ gb453))
        replace HO410 := Aside0.mk (Kd.R_below (R_ HO410.out) hb)
        replace HO413 := Aside0.mk (Kd.R_below (R_ HO413.out) hb)
        replace HO416 := Aside0.mk (Kd.R_below (R_ HO416.out) hb)
        replace HO421 := Aside0.mk (Kd.R_below (R_ HO421.out) hb)
        replace HO424 := Aside0.mk (Kd.R_below (R_ HO424.out) hb)
        replace HO427 := Aside0.mk (Kd.R_below (R_ HO427.out) hb)
        replace HO432 := Aside0.mk (Kd.R_below (R_ HO432.out) hb)
        replace HO435 := Aside0.mk (Kd.R_below (R_ HO435.out) hb)
        replace HO438 := Aside0.mk (Kd.R_below (R_ HO438.out) hb)
        replace HO444 := Aside0.mk (Kd.R_below (R_ HO444.out) hb)
        replace HO447 := Aside0.mk (Kd.R_below (R_ HO447.out) hb)
        replace HO450 := Aside0.mk (Kd.R_below (R_ HO450.out) hb)
        replace HO457 := Aside0.mk (Kd.R_below (R_ HO457.out) hb)
        replace HO460 := Aside0.mk (Kd.R_below (R_ HO460.out) hb)
        replace HO463 := Aside0.mk (Kd.R_below (R_ HO463.out) hb)
        replace BK405 := Aside0.mk (blk_below (g := gb405) (o := .cells #[.slice Ao27 t408.length co27, .slice Ao29 t411.length co29, .slice Ao30 t414.length co30] 26 (0, 0)) (B_ BK405.out) hb)
        replace BK406 := Aside0.mk (blk_below (g := gb406) (o := .cells #[.string t417, .string t418] 39 (0, 0)) (B_ BK406.out) hb)
        replace BK429 := Aside0.mk (blk_below (g := gb429) (o := .cells #[.slice Ao41 t419.length co41, .slice Ao45 t422.length co45, .slice Ao46 t425.length co46] 26 (0, 0)) (B_ BK429.out) hb)
        replace BK440 := Aside0.mk (blk_below (g := gb440) (o := .cells #[.slice Ao51 t430.length co51, .slice Ao56 t433.length co56, .slice Ao57 t436.length co57] 26 (0, 0)) (B_ BK440.out) hb)
        replace BK453 := Aside0.mk (blk_below (g := gb453) (o := .cells #[.slice Ao64 t442.length co64, .slice Ao66 t445.length co66, .slice Ao68 t448.length co68] 26 (0, 0)) (B_ BK453.out) hb)
        replace HB := Aside0.mk (below_step (L_ HB.out) hb)
        clear hb hbox hg
        refine hK.out _ _ ⟨(blk_cell BK405.out 0).trans rfl, (blk_cell BK405.out 1).trans rfl, (blk_cell BK405.out 2).trans rfl⟩ (fun hHeld => ?_)
        clear hK K
        refine norm_ (a' := ?_) ?_ ?_
        rotate_left
        · show Act.put _ (some 15) _ = _
          simp only [Act.put, List.setIfInBounds_toArray, List.set_cons_zero, List.set_cons_succ, i64_w, i32_w]
          rfl
        exact norm_ (by simp only [putAll, Act.put, List.setIfInBounds_toArray, List.set_cons_zero, List.set_cons_succ]) (hCont (v456, v459, v462, gb466) _ ⟨hHeld, (R_ (Kd.R_mono HO410.out (fun _ hk => ⟨hk.1.1, ⟨hk.1.2.1, ⟨hk.1.2.2.1, ⟨hk.2, hk.1.2.2.2⟩⟩⟩⟩))), (R_ (Kd.R_mono HO413.out (fun _ hk => ⟨hk.1.1, ⟨hk.1.2.1, ⟨hk.1.2.2, hk.2⟩⟩⟩))), (R_ (Kd.R_mono HO416.out (fun _ hk => ⟨hk.1.1, ⟨hk.1.2.1, ⟨hk.1.2.2, hk.2⟩⟩⟩))), (R_ (Kd.R_mono HO421.out (fun _ hk => ⟨hk.1.1, ⟨hk.1.2.1, ⟨hk.1.2.2.1, ⟨hk.2, hk.1.2.2.2⟩⟩⟩⟩))), (R_ (Kd.R_mono HO424.out (fun _ hk => ⟨hk.1.1, ⟨hk.1.2.1, ⟨hk.1.2.2, hk.2⟩⟩⟩))), (R_ (Kd.R_mono HO427.out (fun _ hk => ⟨hk.1.1, ⟨hk.1.2.1, ⟨hk.1.2.2, hk.2⟩⟩⟩))), (R_ (Kd.R_mono HO432.out (fun _ hk => ⟨hk.1.1, ⟨hk.1.2.1, ⟨hk.1.2.2.1, ⟨hk.2, hk.1.2.2.2⟩⟩⟩⟩))), (R_ (Kd.R_mono HO435.out (fun _ hk => ⟨hk.1.1, ⟨hk.1.2.1, ⟨hk.1.2.2, hk.2⟩⟩⟩))), (R_ (Kd.R_mono HO438.out (fun _ hk => ⟨hk.1.1, ⟨hk.1.2.1, ⟨hk.1.2.2, hk.2⟩⟩⟩))), (R_ (Kd.R_mono HO444.out (fun _ hk => ⟨hk.1.1, ⟨hk.1.2.1, ⟨hk.1.2.2.1, ⟨hk.2, hk.1.2.2.2⟩⟩⟩⟩))), (R_ (Kd.R_mono HO447.out (fun _ hk => ⟨hk.1.1, ⟨hk.1.2.1, ⟨hk.1.2.2, hk.2⟩⟩⟩))), (R_ (Kd.R_mono HO450.out (fun _ hk => ⟨hk.1.1, ⟨hk.1.2.1, ⟨hk.1.2.2, hk.2⟩⟩⟩))), (R_ (Kd.R_mono HO457.out (fun _ hk => ⟨hk.1.1.1.1.2, ⟨hk.1.1.1.2, ⟨hk.1.1.2, ⟨hk.1.2, hk.2⟩⟩⟩⟩))), (R_ (Kd.R_mono HO460.out (fun _ hk => ⟨hk.1.1.1.2, ⟨hk.1.1.2, ⟨hk.1.2, hk.2⟩⟩⟩))), (R_ (Kd.R_mono HO463.out (fun _ hk => ⟨hk.1.1.1.2, ⟨hk.1.1.2, ⟨hk.1.2, hk.2⟩⟩⟩))), (B_ BK405.out), (B_ BK406.out), (B_ BK429.out), (B_ BK440.out), (B_ BK453.out), (B_ BK466.out), GW466.out, GE466.out, NB405_466.out, NB466_405.out, NB406_466.out, NB466_406.out, NB429_466.out, NB466_429.out, NB440_466.out, NB466_440.out, NB453_466.out, NB466_453.out, (L_ HB.out)⟩)
      · skip
        refine box_step ?hg (N := 15) ?hd (cs := #[.slice none 0 0, .slice none 0 0, .slice none 0 0]) (t := 26) ?hr ?_; (case hd => rfl); (case hg => rfl); (case hr => first | (go_simp; done) | (go_simp; rfl))
        intro gb466 hg w73 hbox hb
        have BK466 := Aside0.mk (hbox)
        have GW466 := Aside0.mk ((by rw [hg]; exact (below_size (L_ HB.out)) : w.heap.size ≤ gb466))
        have GE466 := Aside0.mk ((by rw [hg]; exact (below_size (L_ HB.out)) : w.heap.size ≤ gb466))
        have NB405_466 := Aside0.mk ((by rw [hg]; exact Nat.ne_of_lt (blk_lt (g := gb405) (o := .cells #[.slice Ao27 t408.length co27, .slice Ao29 t411.length co29, .slice Ao30 t414.length co30] 26 (0, 0)) (B_ BK405.out)) : gb405 ≠ gb466))
        have NB466_405 := Aside0.mk ((by rw [hg]; exact Nat.ne_of_gt (blk_lt (g := gb405) (o := .cells #[.slice Ao27 t408.length co27, .slice Ao29 t411.length co29, .slice Ao30 t414.length co30] 26 (0, 0)) (B_ BK405.out)) : gb466 ≠ gb405))
        have NB406_466 := Aside0.mk ((by rw [hg]; exact Nat.ne_of_lt (blk_lt (g := gb406) (o := .cells #[.string t417, .string t418] 39 (0, 0)) (B_ BK406.out)) : gb406 ≠ gb466))
        have NB466_406 := Aside0.mk ((by rw [hg]; exact Nat.ne_of_gt (blk_lt (g := gb406) (o := .cells #[.string t417, .string t418] 39 (0, 0)) (B_ BK406.out)) : gb466 ≠ gb406))
        have NB429_466 := Aside0.mk ((by rw [hg]; exact Nat.ne_of_lt (blk_lt (g := gb429) (o := .cells #[.slice Ao41 t419.length co41, .slice Ao45 t422.length co45, .slice Ao46 t425.length co46] 26 (0, 0)) (B_ BK429.out)) : gb429 ≠ gb466))
        have NB466_429 := Aside0.mk ((by rw [hg]; exact Nat.ne_of_gt (blk_lt (g := gb429) (o := .cells #[.slice Ao41 t419.length co41, .slice Ao45 t422.length co45, .slice Ao46 t425.length co46] 26 (0, 0)) (B_ BK429.out)) : gb466 ≠ gb429))
        have NB440_466 := Aside0.mk ((by rw [hg]; exact Nat.ne_of_lt (blk_lt (g := gb440) (o := .cells #[.slice Ao51 t430.length co51, .slice Ao56 t433.length co56, .slice Ao57 t436.length co57] 26 (0, 0)) (B_ BK440.out)) : gb440 ≠ gb466))
        have NB466_440 := Aside0.mk ((by rw [hg]; exact Nat.ne_of_gt (blk_lt (g := gb440) (o := .cells #[.slice Ao51 t430.length co51, .slice Ao56 t433.length co56, .slice Ao57 t436.length co57] 26 (0, 0)) (B_ BK440.out)) : gb466 ≠ gb440))
        have NB453_466 := Aside0.mk ((by rw [hg]; exact Nat.ne_of_lt (blk_lt (g := gb453) (o := .cells #[.slice Ao64 t442.length co64, .slice Ao66 t445.length co66, .slice Ao68 t448.length co68] 26 (0, 0)) (B_ BK453.out)) : gb453 ≠ gb466))
        have NB466_453 := Aside0.mk ((by rw [hg]; exact Nat.ne_of_gt (blk_lt (g := gb453) (o := .cells #[.slice Ao64 t442.length co64, .slice Ao66 t445.length co66, .slice Ao68 t448.length co68] 26 (0, 0)) (B_ BK453.out)) : gb466 ≠ gb453))
        replace HO410 := Aside0.mk (Kd.R_below (R_ HO410.out) hb)
        replace HO413 := Aside0.mk (Kd.R_below (R_ HO413.out) hb)
        replace HO416 := Aside0.mk (Kd.R_below (R_ HO416.out) hb)
        replace HO421 := Aside0.mk (Kd.R_below (R_ HO421.out) hb)
        replace HO424 := Aside0.mk (Kd.R_below (R_ HO424.out) hb)
        replace HO427 := Aside0.mk (Kd.R_below (R_ HO427.out) hb)
        replace HO432 := Aside0.mk (Kd.R_below (R_ HO432.out) hb)
        replace HO435 := Aside0.mk (Kd.R_below (R_ HO435.out) hb)
        replace HO438 := Aside0.mk (Kd.R_below (R_ HO438.out) hb)
        replace HO444 := Aside0.mk (Kd.R_below (R_ HO444.out) hb)
        replace HO447 := Aside0.mk (Kd.R_below (R_ HO447.out) hb)
        replace HO450 := Aside0.mk (Kd.R_below (R_ HO450.out) hb)
        replace BK405 := Aside0.mk (blk_below (g := gb405) (o := .cells #[.slice Ao27 t408.length co27, .slice Ao29 t411.length co29, .slice Ao30 t414.length co30] 26 (0, 0)) (B_ BK405.out) hb)
        replace BK406 := Aside0.mk (blk_below (g := gb406) (o := .cells #[.string t417, .string t418] 39 (0, 0)) (B_ BK406.out) hb)
        replace BK429 := Aside0.mk (blk_below (g := gb429) (o := .cells #[.slice Ao41 t419.length co41, .slice Ao45 t422.length co45, .slice Ao46 t425.length co46] 26 (0, 0)) (B_ BK429.out) hb)
        replace BK440 := Aside0.mk (blk_below (g := gb440) (o := .cells #[.slice Ao51 t430.length co51, .slice Ao56 t433.length co56, .slice Ao57 t436.length co57] 26 (0, 0)) (B_ BK440.out) hb)
        replace BK453 := Aside0.mk (blk_below (g := gb453) (o := .cells #[.slice Ao64 t442.length co64, .slice Ao66 t445.length co66, .slice Ao68 t448.length co68] 26 (0, 0)) (B_ BK453.out) hb)
        replace HB := Aside0.mk (below_step (L_ HB.out) hb)
        clear hb hbox hg
        refine hK.out _ _ ⟨(blk_cell BK405.out 0).trans rfl, (blk_cell BK405.out 1).trans rfl, (blk_cell BK405.out 2).trans rfl⟩ (fun hHeld => ?_)
        clear hK K
        refine norm_ (a' := ?_) ?_ ?_
        rotate_left
        · show Act.put _ (some 15) _ = _
          simp only [Act.put, List.setIfInBounds_toArray, List.set_cons_zero, List.set_cons_succ, i64_w, i32_w]
          rfl
        refine one_ (i := 3) (N := some 52) #[true, true, true, true, false, false, false, false, true, false, false, false] rfl rfl (one_of HT_.out (by kernel_rfl)) (by decide) (fun K hK => ?_)
        refine goes_ Try.func25 (by kernel_rfl) rfl #[.agg #[.slice Ao27 t408.length co27, .slice Ao29 t411.length co29, .slice Ao30 t414.length co30], .string t454] (by rfl) rfl rfl (by (try simp only [List.map_toArray, List.map_cons, List.map_nil]); first | done | rfl | (simp only [List.length_drop, List.length_take]; rfl)) ?_
        with_reducible refine (bazaarref06_Delete.calls k _ _ t408 _ _ t411 _ _ t414 t454 t455 t458 t461 t464 t465 _ ?side1 ?side2 ?side3 ?side4 ?side5 ?side6 A13.out).mono ?_
        (case side1 => repeat (first | exact (Kd.R_reads' HO410.out).2.2 | (with_reducible refine Kd.C_alloc ?_ _) | (with_reducible refine Kd.C_drewN ?_ _) | (with_reducible refine Kd.C_drew ?_)))
        (case side2 => exact (Kd.R_reads' HO410.out).2.1)
        (case side3 => repeat (first | exact (Kd.R_reads' HO413.out).2.2 | (with_reducible refine Kd.C_alloc ?_ _) | (with_reducible refine Kd.C_drewN ?_ _) | (with_reducible refine Kd.C_drew ?_)))
        (case side4 => exact (Kd.R_reads' HO413.out).2.1)
        (case side5 => repeat (first | exact (Kd.R_reads' HO416.out).2.2 | (with_reducible refine Kd.C_alloc ?_ _) | (with_reducible refine Kd.C_drewN ?_ _) | (with_reducible refine Kd.C_drew ?_)))
        (case side6 => exact (Kd.R_reads' HO416.out).2.1)
        rintro e w74 ⟨v456, v459, v462, rfl, ho0, ho1, ho2, hb⟩
        refine ⟨_, rfl, ?_⟩
        have HO457 := Aside0.mk (Kd.R_lower (Kd.R_newB (Kd.R_new' (Kd.R_new' (Kd.R_new' (Kd.R_new' ho0 (Kd.R_lt (R_ HO410.out))) (Kd.R_lt (R_ HO421.out))) (Kd.R_lt (R_ HO432.out))) (Kd.R_lt (R_ HO444.out))) (g := gb406) (o := .cells #[.string t417, .string t418] 39 (0, 0)) (B_ BK406.out)) (below_size (L_ HB.out)))
        have HO460 := Aside0.mk (Kd.R_lower (Kd.R_new' (Kd.R_new' (Kd.R_new' (Kd.R_new' ho1 (Kd.R_lt (R_ HO413.out))) (Kd.R_lt (R_ HO424.out))) (Kd.R_lt (R_ HO435.out))) (Kd.R_lt (R_ HO447.out))) (below_size (L_ HB.out)))
        have HO463 := Aside0.mk (Kd.R_lower (Kd.R_new' (Kd.R_new' (Kd.R_new' (Kd.R_new' ho2 (Kd.R_lt (R_ HO416.out))) (Kd.R_lt (R_ HO427.out))) (Kd.R_lt (R_ HO438.out))) (Kd.R_lt (R_ HO450.out))) (below_size (L_ HB.out)))
        replace HO410 := Aside0.mk (Kd.R_elder' (R_ HO410.out) (Kd.R_base ho0) hb)
        replace HO413 := Aside0.mk (Kd.R_elder' (R_ HO413.out) (Kd.R_base ho1) hb)
        replace HO416 := Aside0.mk (Kd.R_elder' (R_ HO416.out) (Kd.R_base ho2) hb)
        replace HO421 := Aside0.mk (Kd.R_elder' (R_ HO421.out) (Kd.R_base ho0) hb)
        replace HO424 := Aside0.mk (Kd.R_elder' (R_ HO424.out) (Kd.R_base ho1) hb)
        replace HO427 := Aside0.mk (Kd.R_elder' (R_ HO427.out) (Kd.R_base ho2) hb)
        replace HO432 := Aside0.mk (Kd.R_elder' (R_ HO432.out) (Kd.R_base ho0) hb)
        replace HO435 := Aside0.mk (Kd.R_elder' (R_ HO435.out) (Kd.R_base ho1) hb)
        replace HO438 := Aside0.mk (Kd.R_elder' (R_ HO438.out) (Kd.R_base ho2) hb)
        replace HO444 := Aside0.mk (Kd.R_elder' (R_ HO444.out) (Kd.R_base ho0) hb)
        replace HO447 := Aside0.mk (Kd.R_elder' (R_ HO447.out) (Kd.R_base ho1) hb)
        replace HO450 := Aside0.mk (Kd.R_elder' (R_ HO450.out) (Kd.R_base ho2) hb)
        replace BK405 := Aside0.mk (blk_below (g := gb405) (o := .cells #[.slice Ao27 t408.length co27, .slice Ao29 t411.length co29, .slice Ao30 t414.length co30] 26 (0, 0)) (B_ BK405.out) hb)
        replace BK406 := Aside0.mk (blk_below (g := gb406) (o := .cells #[.string t417, .string t418] 39 (0, 0)) (B_ BK406.out) hb)
        replace BK429 := Aside0.mk (blk_below (g := gb429) (o := .cells #[.slice Ao41 t419.length co41, .slice Ao45 t422.length co45, .slice Ao46 t425.length co46] 26 (0, 0)) (B_ BK429.out) hb)
        replace BK440 := Aside0.mk (blk_below (g := gb440) (o := .cells #[.slice Ao51 t430.length co51, .slice Ao56 t433.length co56, .slice Ao57 t436.length co57] 26 (0, 0)) (B_ BK440.out) hb)
        replace BK453 := Aside0.mk (blk_below (g := gb453) (o := .cells #[.slice Ao64 t442.length co64, .slice Ao66 t445.length co66, .slice Ao68 t448.length co68] 26 (0, 0)) (B_ BK453.out) hb)
        replace BK466 := Aside0.mk (blk_below (g := gb466) (o := .cells #[.slice none 0 0, .slice none 0 0, .slice none 0 0] 26 (0, 0)) (B_ BK466.out) hb)
        replace HB := Aside0.mk (below_step (L_ HB.out) hb)
        (try clear hb)
        (try clear hb2)
        (try clear hk)
        (try clear hi)
        (try clear ho0)
        (try clear ho1)
        (try clear ho2)
        refine hK.out _ _ ⟨(blk_cell BK405.out 0).trans rfl, (blk_cell BK405.out 1).trans rfl, (blk_cell BK405.out 2).trans rfl⟩ (fun hHeld => ?_)
        clear hK K
        refine norm_ (a' := ?_) ?_ ?_
        rotate_left
        · show Act.put _ (some 52) _ = _
          simp only [Act.put, List.setIfInBounds_toArray, List.set_cons_zero, List.set_cons_succ, i64_w, i32_w]
          rfl
        refine pure_ (i := 4) (N := some 48) (v := ?_) (a' := ?_) #[true, true, true, true, true, false, false, false, true, false, false, false] rfl rfl (any_of HT_.out (by kernel_rfl)) (fun _ _ _ h => h) (Or.inl ⟨by rfl, ?_⟩) ?_ ?_
        rotate_left
        · intro w'
          go_simp
          with_reducible rfl
        rotate_left
        · simp only [Act.put, List.setIfInBounds_toArray, List.set_cons_zero, List.set_cons_succ, i64_w, i32_w]
          rfl
        refine pure_ (i := 5) (N := some 53) (v := ?_) (a' := ?_) #[true, true, true, true, true, true, false, false, true, false, false, false] rfl rfl (any_of HT_.out (by kernel_rfl)) (fun _ _ _ h => h) (Or.inl ⟨by rfl, ?_⟩) ?_ ?_
        rotate_left
        · intro w'
          go_simp
          with_reducible rfl
        rotate_left
        · simp only [Act.put, List.setIfInBounds_toArray, List.set_cons_zero, List.set_cons_succ, i64_w, i32_w]
          rfl
        refine pure_ (i := 6) (N := some 54) (v := ?_) (a' := ?_) #[true, true, true, true, true, true, true, false, true, false, false, false] rfl rfl (any_of HT_.out (by kernel_rfl)) (fun _ _ _ h => h) (Or.inl ⟨by rfl, ?_⟩) ?_ ?_
        rotate_left
        · intro w'
          go_simp
          with_reducible rfl
        rotate_left
        · simp only [Act.put, List.setIfInBounds_toArray, List.set_cons_zero, List.set_cons_succ, i64_w, i32_w]
          rfl
        refine pure_ (i := 7) (N := some 55) (v := ?_) (a' := ?_) #[true, true, true, true, true, true, true, true, true, false, false, false] rfl rfl (any_of HT_.out (by kernel_rfl)) (fun _ _ _ h => h) (Or.inl ⟨by rfl, ?_⟩) ?_ ?_
        rotate_left
        · intro w'
          go_simp
          with_reducible rfl
        rotate_left
        · simp only [Act.put, List.setIfInBounds_toArray, List.set_cons_zero, List.set_cons_succ, i64_w, i32_w]
          rfl
        exact norm_ (by simp only [putAll, Act.put, List.setIfInBounds_toArray, List.set_cons_zero, List.set_cons_succ]) (hCont (v456, v459, v462, gb466) _ ⟨hHeld, (R_ (Kd.R_mono HO410.out (fun _ hk => ⟨hk.1.1, ⟨hk.1.2.1, ⟨hk.1.2.2.1, ⟨hk.2, hk.1.2.2.2⟩⟩⟩⟩))), (R_ (Kd.R_mono HO413.out (fun _ hk => ⟨hk.1.1, ⟨hk.1.2.1, ⟨hk.1.2.2, hk.2⟩⟩⟩))), (R_ (Kd.R_mono HO416.out (fun _ hk => ⟨hk.1.1, ⟨hk.1.2.1, ⟨hk.1.2.2, hk.2⟩⟩⟩))), (R_ (Kd.R_mono HO421.out (fun _ hk => ⟨hk.1.1, ⟨hk.1.2.1, ⟨hk.1.2.2.1, ⟨hk.2, hk.1.2.2.2⟩⟩⟩⟩))), (R_ (Kd.R_mono HO424.out (fun _ hk => ⟨hk.1.1, ⟨hk.1.2.1, ⟨hk.1.2.2, hk.2⟩⟩⟩))), (R_ (Kd.R_mono HO427.out (fun _ hk => ⟨hk.1.1, ⟨hk.1.2.1, ⟨hk.1.2.2, hk.2⟩⟩⟩))), (R_ (Kd.R_mono HO432.out (fun _ hk => ⟨hk.1.1, ⟨hk.1.2.1, ⟨hk.1.2.2.1, ⟨hk.2, hk.1.2.2.2⟩⟩⟩⟩))), (R_ (Kd.R_mono HO435.out (fun _ hk => ⟨hk.1.1, ⟨hk.1.2.1, ⟨hk.1.2.2, hk.2⟩⟩⟩))), (R_ (Kd.R_mono HO438.out (fun _ hk => ⟨hk.1.1, ⟨hk.1.2.1, ⟨hk.1.2.2, hk.2⟩⟩⟩))), (R_ (Kd.R_mono HO444.out (fun _ hk => ⟨hk.1.1, ⟨hk.1.2.1, ⟨hk.1.2.2.1, ⟨hk.2, hk.1.2.2.2⟩⟩⟩⟩))), (R_ (Kd.R_mono HO447.out (fun _ hk => ⟨hk.1.1, ⟨hk.1.2.1, ⟨hk.1.2.2, hk.2⟩⟩⟩))), (R_ (Kd.R_mono HO450.out (fun _ hk => ⟨hk.1.1, ⟨hk.1.2.1, ⟨hk.1.2.2, hk.2⟩⟩⟩))), (R_ (Kd.R_mono HO457.out (fun _ hk => ⟨hk.1.1.1.1.2, ⟨hk.1.1.1.2, ⟨hk.1.1.2, ⟨hk.1.2, hk.2⟩⟩⟩⟩))), (R_ (Kd.R_mono HO460.out (fun _ hk => ⟨hk.1.1.1.2, ⟨hk.1.1.2, ⟨hk.1.2, hk.2⟩⟩⟩))), (R_ (Kd.R_mono HO463.out (fun _ hk => ⟨hk.1.1.1.2, ⟨hk.1.1.2, ⟨hk.1.2, hk.2⟩⟩⟩))), (B_ BK405.out), (B_ BK406.out), (B_ BK429.out), (B_ BK440.out), (B_ BK453.out), (B_ BK466.out), GW466.out, GE466.out, NB405_466.out, NB466_405.out, NB406_466.out, NB466_406.out, NB429_466.out, NB466_429.out, NB440_466.out, NB466_440.out, NB453_466.out, NB466_453.out, (L_ HB.out)⟩)
    · skip
      refine box_step ?hg (N := 15) ?hd (cs := #[.slice none 0 0, .slice none 0 0, .slice none 0 0]) (t := 26) ?hr ?_; (case hd => rfl); (case hg => rfl); (case hr => first | (go_simp; done) | (go_simp; rfl))
      intro gb466 hg w72 hbox hb
      have BK466 := Aside0.mk (hbox)
      have GW466 := Aside0.mk ((by rw [hg]; exact (below_size (L_ HB.out)) : w.heap.size ≤ gb466))
      have GE466 := Aside0.mk ((by rw [hg]; exact (below_size (L_ HB.out)) : w.heap.size ≤ gb466))
      have NB405_466 := Aside0.mk ((by rw [hg]; exact Nat.ne_of_lt (blk_lt (g := gb405) (o := .cells #[.slice Ao27 t408.length co27, .slice Ao29 t411.length co29, .slice Ao30 t414.length co30] 26 (0, 0)) (B_ BK405.out)) : gb405 ≠ gb466))
      have NB466_405 := Aside0.mk ((by rw [hg]; exact Nat.ne_of_gt (blk_lt (g := gb405) (o := .cells #[.slice Ao27 t408.length co27, .slice Ao29 t411.length co29, .slice Ao30 t414.length co30] 26 (0, 0)) (B_ BK405.out)) : gb466 ≠ gb405))
      have NB406_466 := Aside0.mk ((by rw [hg]; exact Nat.ne_of_lt (blk_lt (g := gb406) (o := .cells #[.string t417, .string t418] 39 (0, 0)) (B_ BK406.out)) : gb406 ≠ gb466))
      have NB466_406 := Aside0.mk ((by rw [hg]; exact Nat.ne_of_gt (blk_lt (g := gb406) (o := .cells #[.string t417, .string t418] 39 (0, 0)) (B_ BK406.out)) : gb466 ≠ gb406))
      have NB429_466 := Aside0.mk ((by rw [hg]; exact Nat.ne_of_lt (blk_lt (g := gb429) (o := .cells #[.slice Ao41 t419.length co41, .slice Ao45 t422.length co45, .slice Ao46 t425.length co46] 26 (0, 0)) (B_ BK429.out)) : gb429 ≠ gb466))
      have NB466_429 := Aside0.mk ((by rw [hg]; exact Nat.ne_of_gt (blk_lt (g := gb429) (o := .cells #[.slice Ao41 t419.length co41, .slice Ao45 t422.length co45, .slice Ao46 t425.length co46] 26 (0, 0)) (B_ BK429.out)) : gb466 ≠ gb429))
      have NB440_466 := Aside0.mk ((by rw [hg]; exact Nat.ne_of_lt (blk_lt (g := gb440) (o := .cells #[.slice Ao51 t430.length co51, .slice Ao56 t433.length co56, .slice Ao57 t436.length co57] 26 (0, 0)) (B_ BK440.out)) : gb440 ≠ gb466))
      have NB466_440 := Aside0.mk ((by rw [hg]; exact Nat.ne_of_gt (blk_lt (g := gb440) (o := .cells #[.slice Ao51 t430.length co51, .slice Ao56 t433.length co56, .slice Ao57 t436.length co57] 26 (0, 0)) (B_ BK440.out)) : gb466 ≠ gb440))
      have NB453_466 := Aside0.mk ((by rw [hg]; exact Nat.ne_of_lt (blk_lt (g := gb453) (o := .cells #[.slice Ao64 t442.length co64, .slice Ao66 t445.length co66, .slice Ao68 t448.length co68] 26 (0, 0)) (B_ BK453.out)) : gb453 ≠ gb466))
      have NB466_453 := Aside0.mk ((by rw [hg]; exact Nat.ne_of_gt (blk_lt (g := gb453) (o := .cells #[.slice Ao64 t442.length co64, .slice Ao66 t445.length co66, .slice Ao68 t448.length co68] 26 (0, 0)) (B_ BK453.out)) : gb466 ≠ gb453))
      replace HO410 := Aside0.mk (Kd.R_below (R_ HO410.out) hb)
      replace HO413 := Aside0.mk (Kd.R_below (R_ HO413.out) hb)
      replace HO416 := Aside0.mk (Kd.R_below (R_ HO416.out) hb)
      replace HO421 := Aside0.mk (Kd.R_below (R_ HO421.out) hb)
      replace HO424 := Aside0.mk (Kd.R_below (R_ HO424.out) hb)
      replace HO427 := Aside0.mk (Kd.R_below (R_ HO427.out) hb)
      replace HO432 := Aside0.mk (Kd.R_below (R_ HO432.out) hb)
      replace HO435 := Aside0.mk (Kd.R_below (R_ HO435.out) hb)
      replace HO438 := Aside0.mk (Kd.R_below (R_ HO438.out) hb)
      replace HO444 := Aside0.mk (Kd.R_below (R_ HO444.out) hb)
      replace HO447 := Aside0.mk (Kd.R_below (R_ HO447.out) hb)
      replace HO450 := Aside0.mk (Kd.R_below (R_ HO450.out) hb)
      replace BK405 := Aside0.mk (blk_below (g := gb405) (o := .cells #[.slice Ao27 t408.length co27, .slice Ao29 t411.length co29, .slice Ao30 t414.length co30] 26 (0, 0)) (B_ BK405.out) hb)
      replace BK406 := Aside0.mk (blk_below (g := gb406) (o := .cells #[.string t417, .string t418] 39 (0, 0)) (B_ BK406.out) hb)
      replace BK429 := Aside0.mk (blk_below (g := gb429) (o := .cells #[.slice Ao41 t419.length co41, .slice Ao45 t422.length co45, .slice Ao46 t425.length co46] 26 (0, 0)) (B_ BK429.out) hb)
      replace BK440 := Aside0.mk (blk_below (g := gb440) (o := .cells #[.slice Ao51 t430.length co51, .slice Ao56 t433.length co56, .slice Ao57 t436.length co57] 26 (0, 0)) (B_ BK440.out) hb)
      replace BK453 := Aside0.mk (blk_below (g := gb453) (o := .cells #[.slice Ao64 t442.length co64, .slice Ao66 t445.length co66, .slice Ao68 t448.length co68] 26 (0, 0)) (B_ BK453.out) hb)
      replace HB := Aside0.mk (below_step (L_ HB.out) hb)
      clear hb hbox hg
      refine hK.out _ _ ⟨(blk_cell BK405.out 0).trans rfl, (blk_cell BK405.out 1).trans rfl, (blk_cell BK405.out 2).trans rfl⟩ (fun hHeld => ?_)
      clear hK K
      refine norm_ (a' := ?_) ?_ ?_
      rotate_left
      · show Act.put _ (some 15) _ = _
        simp only [Act.put, List.setIfInBounds_toArray, List.set_cons_zero, List.set_cons_succ, i64_w, i32_w]
        rfl
      refine one_ (i := 2) (N := some 51) #[true, true, true, false, false, false, false, false, true, false, false, false] rfl rfl (one_of HT_.out (by kernel_rfl)) (by decide) (fun K hK => ?_)
      refine goes_ Try.func19 (by kernel_rfl) rfl #[.string a2] (by rfl) rfl rfl (by (try simp only [List.map_toArray, List.map_cons, List.map_nil]); first | done | rfl | (simp only [List.length_drop, List.length_take]; rfl)) ?_
      with_reducible refine (bazaarlaw06_text.calls a2 t454 _ A12.out).mono ?_
      rintro e w73 ⟨rfl, hb⟩
      refine ⟨_, rfl, ?_⟩
      replace HO410 := Aside0.mk (Kd.R_below (R_ HO410.out) hb)
      replace HO413 := Aside0.mk (Kd.R_below (R_ HO413.out) hb)
      replace HO416 := Aside0.mk (Kd.R_below (R_ HO416.out) hb)
      replace HO421 := Aside0.mk (Kd.R_below (R_ HO421.out) hb)
      replace HO424 := Aside0.mk (Kd.R_below (R_ HO424.out) hb)
      replace HO427 := Aside0.mk (Kd.R_below (R_ HO427.out) hb)
      replace HO432 := Aside0.mk (Kd.R_below (R_ HO432.out) hb)
      replace HO435 := Aside0.mk (Kd.R_below (R_ HO435.out) hb)
      replace HO438 := Aside0.mk (Kd.R_below (R_ HO438.out) hb)
      replace HO444 := Aside0.mk (Kd.R_below (R_ HO444.out) hb)
      replace HO447 := Aside0.mk (Kd.R_below (R_ HO447.out) hb)
      replace HO450 := Aside0.mk (Kd.R_below (R_ HO450.out) hb)
      replace BK405 := Aside0.mk (blk_below (g := gb405) (o := .cells #[.slice Ao27 t408.length co27, .slice Ao29 t411.length co29, .slice Ao30 t414.length co30] 26 (0, 0)) (B_ BK405.out) hb)
      replace BK406 := Aside0.mk (blk_below (g := gb406) (o := .cells #[.string t417, .string t418] 39 (0, 0)) (B_ BK406.out) hb)
      replace BK429 := Aside0.mk (blk_below (g := gb429) (o := .cells #[.slice Ao41 t419.length co41, .slice Ao45 t422.length co45, .slice Ao46 t425.length co46] 26 (0, 0)) (B_ BK429.out) hb)
      replace BK440 := Aside0.mk (blk_below (g := gb440) (o := .cells #[.slice Ao51 t430.length co51, .slice Ao56 t433.length co56, .slice Ao57 t436.length co57] 26 (0, 0)) (B_ BK440.out) hb)
      replace BK453 := Aside0.mk (blk_below (g := gb453) (o := .cells #[.slice Ao64 t442.length co64, .slice Ao66 t445.length co66, .slice Ao68 t448.length co68] 26 (0, 0)) (B_ BK453.out) hb)
      replace BK466 := Aside0.mk (blk_below (g := gb466) (o := .cells #[.slice none 0 0, .slice none 0 0, .slice none 0 0] 26 (0, 0)) (B_ BK466.out) hb)
      replace HB := Aside0.mk (below_step (L_ HB.out) hb)
      (try clear hb)
      (try clear hb2)
      (try clear hk)
      (try clear hi)
      refine hK.out _ _ ⟨(blk_cell BK405.out 0).trans rfl, (blk_cell BK405.out 1).trans rfl, (blk_cell BK405.out 2).trans rfl⟩ (fun hHeld => ?_)
      clear hK K
      refine norm_ (a' := ?_) ?_ ?_
      rotate_left
      · show Act.put _ (some 51) _ = _
        simp only [Act.put, List.setIfInBounds_toArray, List.set_cons_zero, List.set_cons_succ, i64_w, i32_w]
        rfl
      refine one_ (i := 3) (N := some 52) #[true, true, true, true, false, false, false, false, true, false, false, false] rfl rfl (one_of HT_.out (by kernel_rfl)) (by decide) (fun K hK => ?_)
      refine goes_ Try.func25 (by kernel_rfl) rfl #[.agg #[.slice Ao27 t408.length co27, .slice Ao29 t411.length co29, .slice Ao30 t414.length co30], .string t454] (by rfl) rfl rfl (by (try simp only [List.map_toArray, List.map_cons, List.map_nil]); first | done | rfl | (simp only [List.length_drop, List.length_take]; rfl)) ?_
      with_reducible refine (bazaarref06_Delete.calls k _ _ t408 _ _ t411 _ _ t414 t454 t455 t458 t461 t464 t465 _ ?side1 ?side2 ?side3 ?side4 ?side5 ?side6 A13.out).mono ?_
      (case side1 => repeat (first | exact (Kd.R_reads' HO410.out).2.2 | (with_reducible refine Kd.C_alloc ?_ _) | (with_reducible refine Kd.C_drewN ?_ _) | (with_reducible refine Kd.C_drew ?_)))
      (case side2 => exact (Kd.R_reads' HO410.out).2.1)
      (case side3 => repeat (first | exact (Kd.R_reads' HO413.out).2.2 | (with_reducible refine Kd.C_alloc ?_ _) | (with_reducible refine Kd.C_drewN ?_ _) | (with_reducible refine Kd.C_drew ?_)))
      (case side4 => exact (Kd.R_reads' HO413.out).2.1)
      (case side5 => repeat (first | exact (Kd.R_reads' HO416.out).2.2 | (with_reducible refine Kd.C_alloc ?_ _) | (with_reducible refine Kd.C_drewN ?_ _) | (with_reducible refine Kd.C_drew ?_)))
      (case side6 => exact (Kd.R_reads' HO416.out).2.1)
      rintro e w74 ⟨v456, v459, v462, rfl, ho0, ho1, ho2, hb⟩
      refine ⟨_, rfl, ?_⟩
      have HO457 := Aside0.mk (Kd.R_lower (Kd.R_newB (Kd.R_new' (Kd.R_new' (Kd.R_new' (Kd.R_new' ho0 (Kd.R_lt (R_ HO410.out))) (Kd.R_lt (R_ HO421.out))) (Kd.R_lt (R_ HO432.out))) (Kd.R_lt (R_ HO444.out))) (g := gb406) (o := .cells #[.string t417, .string t418] 39 (0, 0)) (B_ BK406.out)) (below_size (L_ HB.out)))
      have HO460 := Aside0.mk (Kd.R_lower (Kd.R_new' (Kd.R_new' (Kd.R_new' (Kd.R_new' ho1 (Kd.R_lt (R_ HO413.out))) (Kd.R_lt (R_ HO424.out))) (Kd.R_lt (R_ HO435.out))) (Kd.R_lt (R_ HO447.out))) (below_size (L_ HB.out)))
      have HO463 := Aside0.mk (Kd.R_lower (Kd.R_new' (Kd.R_new' (Kd.R_new' (Kd.R_new' ho2 (Kd.R_lt (R_ HO416.out))) (Kd.R_lt (R_ HO427.out))) (Kd.R_lt (R_ HO438.out))) (Kd.R_lt (R_ HO450.out))) (below_size (L_ HB.out)))
      replace HO410 := Aside0.mk (Kd.R_elder' (R_ HO410.out) (Kd.R_base ho0) hb)
      replace HO413 := Aside0.mk (Kd.R_elder' (R_ HO413.out) (Kd.R_base ho1) hb)
      replace HO416 := Aside0.mk (Kd.R_elder' (R_ HO416.out) (Kd.R_base ho2) hb)
      replace HO421 := Aside0.mk (Kd.R_elder' (R_ HO421.out) (Kd.R_base ho0) hb)
      replace HO424 := Aside0.mk (Kd.R_elder' (R_ HO424.out) (Kd.R_base ho1) hb)
      replace HO427 := Aside0.mk (Kd.R_elder' (R_ HO427.out) (Kd.R_base ho2) hb)
      replace HO432 := Aside0.mk (Kd.R_elder' (R_ HO432.out) (Kd.R_base ho0) hb)
      replace HO435 := Aside0.mk (Kd.R_elder' (R_ HO435.out) (Kd.R_base ho1) hb)
      replace HO438 := Aside0.mk (Kd.R_elder' (R_ HO438.out) (Kd.R_base ho2) hb)
      replace HO444 := Aside0.mk (Kd.R_elder' (R_ HO444.out) (Kd.R_base ho0) hb)
      replace HO447 := Aside0.mk (Kd.R_elder' (R_ HO447.out) (Kd.R_base ho1) hb)
      replace HO450 := Aside0.mk (Kd.R_elder' (R_ HO450.out) (Kd.R_base ho2) hb)
      replace BK405 := Aside0.mk (blk_below (g := gb405) (o := .cells #[.slice Ao27 t408.length co27, .slice Ao29 t411.length co29, .slice Ao30 t414.length co30] 26 (0, 0)) (B_ BK405.out) hb)
      replace BK406 := Aside0.mk (blk_below (g := gb406) (o := .cells #[.string t417, .string t418] 39 (0, 0)) (B_ BK406.out) hb)
      replace BK429 := Aside0.mk (blk_below (g := gb429) (o := .cells #[.slice Ao41 t419.length co41, .slice Ao45 t422.length co45, .slice Ao46 t425.length co46] 26 (0, 0)) (B_ BK429.out) hb)
      replace BK440 := Aside0.mk (blk_below (g := gb440) (o := .cells #[.slice Ao51 t430.length co51, .slice Ao56 t433.length co56, .slice Ao57 t436.length co57] 26 (0, 0)) (B_ BK440.out) hb)
      replace BK453 := Aside0.mk (blk_below (g := gb453) (o := .cells #[.slice Ao64 t442.length co64, .slice Ao66 t445.length co66, .slice Ao68 t448.length co68] 26 (0, 0)) (B_ BK453.out) hb)
      replace BK466 := Aside0.mk (blk_below (g := gb466) (o := .cells #[.slice none 0 0, .slice none 0 0, .slice none 0 0] 26 (0, 0)) (B_ BK466.out) hb)
      replace HB := Aside0.mk (below_step (L_ HB.out) hb)
      (try clear hb)
      (try clear hb2)
      (try clear hk)
      (try clear hi)
      (try clear ho0)
      (try clear ho1)
      (try clear ho2)
      refine hK.out _ _ ⟨(blk_cell BK405.out 0).trans rfl, (blk_cell BK405.out 1).trans rfl, (blk_cell BK405.out 2).trans rfl⟩ (fun hHeld => ?_)
      clear hK K
      refine norm_ (a' := ?_) ?_ ?_
      rotate_left
      · show Act.put _ (some 52) _ = _
        simp only [Act.put, List.setIfInBounds_toArray, List.set_cons_zero, List.set_cons_succ, i64_w, i32_w]
        rfl
      refine pure_ (i := 4) (N := some 48) (v := ?_) (a' := ?_) #[true, true, true, true, true, false, false, false, true, false, false, false] rfl rfl (any_of HT_.out (by kernel_rfl)) (fun _ _ _ h => h) (Or.inl ⟨by rfl, ?_⟩) ?_ ?_
      rotate_left
      · intro w'
        go_simp
        with_reducible rfl
      rotate_left
      · simp only [Act.put, List.setIfInBounds_toArray, List.set_cons_zero, List.set_cons_succ, i64_w, i32_w]
        rfl
      refine pure_ (i := 5) (N := some 53) (v := ?_) (a' := ?_) #[true, true, true, true, true, true, false, false, true, false, false, false] rfl rfl (any_of HT_.out (by kernel_rfl)) (fun _ _ _ h => h) (Or.inl ⟨by rfl, ?_⟩) ?_ ?_
      rotate_left
      · intro w'
        go_simp
        with_reducible rfl
      rotate_left
      · simp only [Act.put, List.setIfInBounds_toArray, List.set_cons_zero, List.set_cons_succ, i64_w, i32_w]
        rfl
      refine pure_ (i := 6) (N := some 54) (v := ?_) (a' := ?_) #[true, true, true, true, true, true, true, false, true, false, false, false] rfl rfl (any_of HT_.out (by kernel_rfl)) (fun _ _ _ h => h) (Or.inl ⟨by rfl, ?_⟩) ?_ ?_
      rotate_left
      · intro w'
        go_simp
        with_reducible rfl
      rotate_left
      · simp only [Act.put, List.setIfInBounds_toArray, List.set_cons_zero, List.set_cons_succ, i64_w, i32_w]
        rfl
      refine pure_ (i := 7) (N := some 55) (v := ?_) (a' := ?_) #[true, true, true, true, true, true, true, true, true, false, false, false] rfl rfl (any_of HT_.out (by kernel_rfl)) (fun _ _ _ h => h) (Or.inl ⟨by rfl, ?_⟩) ?_ ?_
      rotate_left
      · intro w'
        go_simp
        with_reducible rfl
      rotate_left
      · simp only [Act.put, List.setIfInBounds_toArray, List.set_cons_zero, List.set_cons_succ, i64_w, i32_w]
        rfl
      exact norm_ (by simp only [putAll, Act.put, List.setIfInBounds_toArray, List.set_cons_zero, List.set_cons_succ]) (hCont (v456, v459, v462, gb466) _ ⟨hHeld, (R_ (Kd.R_mono HO410.out (fun _ hk => ⟨hk.1.1, ⟨hk.1.2.1, ⟨hk.1.2.2.1, ⟨hk.2, hk.1.2.2.2⟩⟩⟩⟩))), (R_ (Kd.R_mono HO413.out (fun _ hk => ⟨hk.1.1, ⟨hk.1.2.1, ⟨hk.1.2.2, hk.2⟩⟩⟩))), (R_ (Kd.R_mono HO416.out (fun _ hk => ⟨hk.1.1, ⟨hk.1.2.1, ⟨hk.1.2.2, hk.2⟩⟩⟩))), (R_ (Kd.R_mono HO421.out (fun _ hk => ⟨hk.1.1, ⟨hk.1.2.1, ⟨hk.1.2.2.1, ⟨hk.2, hk.1.2.2.2⟩⟩⟩⟩))), (R_ (Kd.R_mono HO424.out (fun _ hk => ⟨hk.1.1, ⟨hk.1.2.1, ⟨hk.1.2.2, hk.2⟩⟩⟩))), (R_ (Kd.R_mono HO427.out (fun _ hk => ⟨hk.1.1, ⟨hk.1.2.1, ⟨hk.1.2.2, hk.2⟩⟩⟩))), (R_ (Kd.R_mono HO432.out (fun _ hk => ⟨hk.1.1, ⟨hk.1.2.1, ⟨hk.1.2.2.1, ⟨hk.2, hk.1.2.2.2⟩⟩⟩⟩))), (R_ (Kd.R_mono HO435.out (fun _ hk => ⟨hk.1.1, ⟨hk.1.2.1, ⟨hk.1.2.2, hk.2⟩⟩⟩))), (R_ (Kd.R_mono HO438.out (fun _ hk => ⟨hk.1.1, ⟨hk.1.2.1, ⟨hk.1.2.2, hk.2⟩⟩⟩))), (R_ (Kd.R_mono HO444.out (fun _ hk => ⟨hk.1.1, ⟨hk.1.2.1, ⟨hk.1.2.2.1, ⟨hk.2, hk.1.2.2.2⟩⟩⟩⟩))), (R_ (Kd.R_mono HO447.out (fun _ hk => ⟨hk.1.1, ⟨hk.1.2.1, ⟨hk.1.2.2, hk.2⟩⟩⟩))), (R_ (Kd.R_mono HO450.out (fun _ hk => ⟨hk.1.1, ⟨hk.1.2.1, ⟨hk.1.2.2, hk.2⟩⟩⟩))), (R_ (Kd.R_mono HO457.out (fun _ hk => ⟨hk.1.1.1.1.2, ⟨hk.1.1.1.2, ⟨hk.1.1.2, ⟨hk.1.2, hk.2⟩⟩⟩⟩))), (R_ (Kd.R_mono HO460.out (fun _ hk => ⟨hk.1.1.1.2, ⟨hk.1.1.2, ⟨hk.1.2, hk.2⟩⟩⟩))), (R_ (Kd.R_mono HO463.out (fun _ hk => ⟨hk.1.1.1.2, ⟨hk.1.1.2, ⟨hk.1.2, hk.2⟩⟩⟩))), (B_ BK405.out), (B_ BK406.out), (B_ BK429.out), (B_ BK440.out), (B_ BK453.out), (B_ BK466.out), GW466.out, GE466.out, NB405_466.out, NB466_405.out, NB406_466.out, NB466_406.out, NB429_466.out, NB466_429.out, NB440_466.out, NB466_440.out, NB453_466.out, NB466_453.out, (L_ HB.out)⟩)
  rintro ⟨v456, v459, v462, gb466⟩ w75 ⟨hS_, h0_, h1_, h2_, h3_, h4_, h5_, h6_, h7_, h8_, h9_, h10_, h11_, h12_, h13_, h14_, h15_, h16_, h17_, h18_, h19_, h20_, h21_, h22_, h23_, h24_, h25_, h26_, h27_, h28_, h29_, h30_, h31_, h32_, h33_⟩
  have n0_ : Aside0 (Kd.R k39 39 w75 w.heap.size (fun k_ => some k_ ≠ (.slice Ao41 t419.length co41 : Value).ownBlock ∧ some k_ ≠ (.slice Ao51 t430.length co51 : Value).ownBlock ∧ some k_ ≠ (.slice Ao64 t442.length co64 : Value).ownBlock ∧ some k_ ≠ (v456 : Value).ownBlock ∧ k_ ≠ gb406) (.slice Ao27 t408.length co27) t408) := ⟨h0_⟩
  have n1_ : Aside0 (Kd.R Kd.string 9 w75 w.heap.size (fun k_ => some k_ ≠ (.slice Ao45 t422.length co45 : Value).ownBlock ∧ some k_ ≠ (.slice Ao56 t433.length co56 : Value).ownBlock ∧ some k_ ≠ (.slice Ao66 t445.length co66 : Value).ownBlock ∧ some k_ ≠ (v459 : Value).ownBlock) (.slice Ao29 t411.length co29) t411) := ⟨h1_⟩
  have n2_ : Aside0 (Kd.R (Kd.int .u32) 65 w75 w.heap.size (fun k_ => some k_ ≠ (.slice Ao46 t425.length co46 : Value).ownBlock ∧ some k_ ≠ (.slice Ao57 t436.length co57 : Value).ownBlock ∧ some k_ ≠ (.slice Ao68 t448.length co68 : Value).ownBlock ∧ some k_ ≠ (v462 : Value).ownBlock) (.slice Ao30 t414.length co30) t414) := ⟨h2_⟩
  have n3_ : Aside0 (Kd.R k39 39 w75 w.heap.size (fun k_ => some k_ ≠ (.slice Ao27 t408.length co27 : Value).ownBlock ∧ some k_ ≠ (.slice Ao51 t430.length co51 : Value).ownBlock ∧ some k_ ≠ (.slice Ao64 t442.length co64 : Value).ownBlock ∧ some k_ ≠ (v456 : Value).ownBlock ∧ k_ ≠ gb406) (.slice Ao41 t419.length co41) t419) := ⟨h3_⟩
  have n4_ : Aside0 (Kd.R Kd.string 9 w75 w.heap.size (fun k_ => some k_ ≠ (.slice Ao29 t411.length co29 : Value).ownBlock ∧ some k_ ≠ (.slice Ao56 t433.length co56 : Value).ownBlock ∧ some k_ ≠ (.slice Ao66 t445.length co66 : Value).ownBlock ∧ some k_ ≠ (v459 : Value).ownBlock) (.slice Ao45 t422.length co45) t422) := ⟨h4_⟩
  have n5_ : Aside0 (Kd.R (Kd.int .u32) 65 w75 w.heap.size (fun k_ => some k_ ≠ (.slice Ao30 t414.length co30 : Value).ownBlock ∧ some k_ ≠ (.slice Ao57 t436.length co57 : Value).ownBlock ∧ some k_ ≠ (.slice Ao68 t448.length co68 : Value).ownBlock ∧ some k_ ≠ (v462 : Value).ownBlock) (.slice Ao46 t425.length co46) t425) := ⟨h5_⟩
  have n6_ : Aside0 (Kd.R k39 39 w75 w.heap.size (fun k_ => some k_ ≠ (.slice Ao27 t408.length co27 : Value).ownBlock ∧ some k_ ≠ (.slice Ao41 t419.length co41 : Value).ownBlock ∧ some k_ ≠ (.slice Ao64 t442.length co64 : Value).ownBlock ∧ some k_ ≠ (v456 : Value).ownBlock ∧ k_ ≠ gb406) (.slice Ao51 t430.length co51) t430) := ⟨h6_⟩
  have n7_ : Aside0 (Kd.R Kd.string 9 w75 w.heap.size (fun k_ => some k_ ≠ (.slice Ao29 t411.length co29 : Value).ownBlock ∧ some k_ ≠ (.slice Ao45 t422.length co45 : Value).ownBlock ∧ some k_ ≠ (.slice Ao66 t445.length co66 : Value).ownBlock ∧ some k_ ≠ (v459 : Value).ownBlock) (.slice Ao56 t433.length co56) t433) := ⟨h7_⟩
  have n8_ : Aside0 (Kd.R (Kd.int .u32) 65 w75 w.heap.size (fun k_ => some k_ ≠ (.slice Ao30 t414.length co30 : Value).ownBlock ∧ some k_ ≠ (.slice Ao46 t425.length co46 : Value).ownBlock ∧ some k_ ≠ (.slice Ao68 t448.length co68 : Value).ownBlock ∧ some k_ ≠ (v462 : Value).ownBlock) (.slice Ao57 t436.length co57) t436) := ⟨h8_⟩
  have n9_ : Aside0 (Kd.R k39 39 w75 w.heap.size (fun k_ => some k_ ≠ (.slice Ao27 t408.length co27 : Value).ownBlock ∧ some k_ ≠ (.slice Ao41 t419.length co41 : Value).ownBlock ∧ some k_ ≠ (.slice Ao51 t430.length co51 : Value).ownBlock ∧ some k_ ≠ (v456 : Value).ownBlock ∧ k_ ≠ gb406) (.slice Ao64 t442.length co64) t442) := ⟨h9_⟩
  have n10_ : Aside0 (Kd.R Kd.string 9 w75 w.heap.size (fun k_ => some k_ ≠ (.slice Ao29 t411.length co29 : Value).ownBlock ∧ some k_ ≠ (.slice Ao45 t422.length co45 : Value).ownBlock ∧ some k_ ≠ (.slice Ao56 t433.length co56 : Value).ownBlock ∧ some k_ ≠ (v459 : Value).ownBlock) (.slice Ao66 t445.length co66) t445) := ⟨h10_⟩
  have n11_ : Aside0 (Kd.R (Kd.int .u32) 65 w75 w.heap.size (fun k_ => some k_ ≠ (.slice Ao30 t414.length co30 : Value).ownBlock ∧ some k_ ≠ (.slice Ao46 t425.length co46 : Value).ownBlock ∧ some k_ ≠ (.slice Ao57 t436.length co57 : Value).ownBlock ∧ some k_ ≠ (v462 : Value).ownBlock) (.slice Ao68 t448.length co68) t448) := ⟨h11_⟩
  have n12_ : Aside0 (Kd.R k39 39 w75 w.heap.size (fun k_ => some k_ ≠ (.slice Ao27 t408.length co27 : Value).ownBlock ∧ some k_ ≠ (.slice Ao41 t419.length co41 : Value).ownBlock ∧ some k_ ≠ (.slice Ao51 t430.length co51 : Value).ownBlock ∧ some k_ ≠ (.slice Ao64 t442.length co64 : Value).ownBlock ∧ k_ ≠ gb406) v456 t455) := ⟨h12_⟩
  have n13_ : Aside0 (Kd.R Kd.string 9 w75 w.heap.size (fun k_ => some k_ ≠ (.slice Ao29 t411.length co29 : Value).ownBlock ∧ some k_ ≠ (.slice Ao45 t422.length co45 : Value).ownBlock ∧ some k_ ≠ (.slice Ao56 t433.length co56 : Value).ownBlock ∧ some k_ ≠ (.slice Ao66 t445.length co66 : Value).ownBlock) v459 t458) := ⟨h13_⟩
  have n14_ : Aside0 (Kd.R (Kd.int .u32) 65 w75 w.heap.size (fun k_ => some k_ ≠ (.slice Ao30 t414.length co30 : Value).ownBlock ∧ some k_ ≠ (.slice Ao46 t425.length co46 : Value).ownBlock ∧ some k_ ≠ (.slice Ao57 t436.length co57 : Value).ownBlock ∧ some k_ ≠ (.slice Ao68 t448.length co68 : Value).ownBlock) v462 t461) := ⟨h14_⟩
  have n15_ : Aside0 (w75.heap[gb405]? = some (.cells #[.slice Ao27 t408.length co27, .slice Ao29 t411.length co29, .slice Ao30 t414.length co30] 26 (0, 0))) := ⟨h15_⟩
  have n16_ : Aside0 (w75.heap[gb406]? = some (.cells #[.string t417, .string t418] 39 (0, 0))) := ⟨h16_⟩
  have n17_ : Aside0 (w75.heap[gb429]? = some (.cells #[.slice Ao41 t419.length co41, .slice Ao45 t422.length co45, .slice Ao46 t425.length co46] 26 (0, 0))) := ⟨h17_⟩
  have n18_ : Aside0 (w75.heap[gb440]? = some (.cells #[.slice Ao51 t430.length co51, .slice Ao56 t433.length co56, .slice Ao57 t436.length co57] 26 (0, 0))) := ⟨h18_⟩
  have n19_ : Aside0 (w75.heap[gb453]? = some (.cells #[.slice Ao64 t442.length co64, .slice Ao66 t445.length co66, .slice Ao68 t448.length co68] 26 (0, 0))) := ⟨h19_⟩
  have n20_ : Aside0 (w75.heap[gb466]? = some (.cells #[.slice none 0 0, .slice none 0 0, .slice none 0 0] 26 (0, 0))) := ⟨h20_⟩
  have n21_ : Aside0 (w.heap.size ≤ gb466) := ⟨h21_⟩
  have n22_ : Aside0 (w.heap.size ≤ gb466) := ⟨h22_⟩
  have n23_ : Aside0 (gb405 ≠ gb466) := ⟨h23_⟩
  have n24_ : Aside0 (gb466 ≠ gb405) := ⟨h24_⟩
  have n25_ : Aside0 (gb406 ≠ gb466) := ⟨h25_⟩
  have n26_ : Aside0 (gb466 ≠ gb406) := ⟨h26_⟩
  have n27_ : Aside0 (gb429 ≠ gb466) := ⟨h27_⟩
  have n28_ : Aside0 (gb466 ≠ gb429) := ⟨h28_⟩
  have n29_ : Aside0 (gb440 ≠ gb466) := ⟨h29_⟩
  have n30_ : Aside0 (gb466 ≠ gb440) := ⟨h30_⟩
  have n31_ : Aside0 (gb453 ≠ gb466) := ⟨h31_⟩
  have n32_ : Aside0 (gb466 ≠ gb453) := ⟨h32_⟩
  have n33_ : Aside0 (Below w.heap.size w w75) := ⟨h33_⟩
  clear HO410
  clear HO413
  clear HO416
  clear HO421
  clear HO424
  clear HO427
  clear HO432
  clear HO435
  clear HO438
  clear HO444
  clear HO447
  clear HO450
  clear BK405
  clear BK406
  clear BK429
  clear BK440
  clear BK453
  clear HB
  clear h0_ h1_ h2_ h3_ h4_ h5_ h6_ h7_ h8_ h9_ h10_ h11_ h12_ h13_ h14_ h15_ h16_ h17_ h18_ h19_ h20_ h21_ h22_ h23_ h24_ h25_ h26_ h27_ h28_ h29_ h30_ h31_ h32_ h33_
  have HO410 := n0_
  have HO413 := n1_
  have HO416 := n2_
  have HO421 := n3_
  have HO424 := n4_
  have HO427 := n5_
  have HO432 := n6_
  have HO435 := n7_
  have HO438 := n8_
  have HO444 := n9_
  have HO447 := n10_
  have HO450 := n11_
  have HO457 := n12_
  have HO460 := n13_
  have HO463 := n14_
  have BK405 := n15_
  have BK406 := n16_
  have BK429 := n17_
  have BK440 := n18_
  have BK453 := n19_
  have BK466 := n20_
  have GW466 := n21_
  have GE466 := n22_
  have NB405_466 := n23_
  have NB466_405 := n24_
  have NB406_466 := n25_
  have NB466_406 := n26_
  have NB429_466 := n27_
  have NB466_429 := n28_
  have NB440_466 := n29_
  have NB466_440 := n30_
  have NB453_466 := n31_
  have NB466_453 := n32_
  have HB := n33_
  clear n0_ n1_ n2_ n3_ n4_ n5_ n6_ n7_ n8_ n9_ n10_ n11_ n12_ n13_ n14_ n15_ n16_ n17_ n18_ n19_ n20_ n21_ n22_ n23_ n24_ n25_ n26_ n27_ n28_ n29_ n30_ n31_ n32_ n33_
  have hHeld : w75.cell? ⟨gb405, 0, none⟩ = some (.slice Ao27 t408.length co27) ∧ w75.cell? ⟨gb405, 1, none⟩ = some (.slice Ao29 t411.length co29) ∧ w75.cell? ⟨gb405, 2, none⟩ = some (.slice Ao30 t414.length co30) := hS_
  obtain ⟨Ao76, co76, eo76⟩ := Kd.R_slice HO457.out
  (first | subst eo76 | (injection eo76 with f1_ f2_ f3_; have f4_ := f1_.symm; have f5_ := f3_.symm; clear f1_ f2_ f3_; subst f4_; subst f5_))
  obtain ⟨Ao78, co78, eo78⟩ := Kd.R_slice HO460.out
  (first | subst eo78 | (injection eo78 with f1_ f2_ f3_; have f4_ := f1_.symm; have f5_ := f3_.symm; clear f1_ f2_ f3_; subst f4_; subst f5_))
  obtain ⟨Ao80, co80, eo80⟩ := Kd.R_slice HO463.out
  (first | subst eo80 | (injection eo80 with f1_ f2_ f3_; have f4_ := f1_.symm; have f5_ := f3_.symm; clear f1_ f2_ f3_; subst f4_; subst f5_))
  refine norm_ (a' := ?_) ?_ ?_
  rotate_left
  · simp only [putAll, Act.put, List.setIfInBounds_toArray, List.set_cons_zero, List.set_cons_succ]
    rfl
  refine one_ (i := 9) (N := none) #[true, true, true, true, true, true, true, true, true, true, false, false] rfl rfl (one_of HT_.out (by kernel_rfl)) (by decide) (fun K hK => ?_)
  have hs77 : w75.cell? ⟨gb466, 0, none⟩ = some (.slice none 0 0) := (blk_cell BK466.out 0).trans rfl
  have hfs77 := blk_frozen BK466.out 0
  have hns77_0 := NB405_466.out
  have hns77_1 := NB406_466.out
  have hns77_2 := NB429_466.out
  have hns77_3 := NB440_466.out
  have hns77_4 := NB453_466.out
  have hms77_0 := NB466_405.out
  have hms77_1 := NB466_406.out
  have hms77_2 := NB466_429.out
  have hms77_3 := NB466_440.out
  have hms77_4 := NB466_453.out
  have hs79 : w75.cell? ⟨gb466, 1, none⟩ = some (.slice none 0 0) := (blk_cell BK466.out 1).trans rfl
  have hfs79 := blk_frozen BK466.out 1
  have hns79_0 := NB405_466.out
  have hns79_1 := NB406_466.out
  have hns79_2 := NB429_466.out
  have hns79_3 := NB440_466.out
  have hns79_4 := NB453_466.out
  have hms79_0 := NB466_405.out
  have hms79_1 := NB466_406.out
  have hms79_2 := NB466_429.out
  have hms79_3 := NB466_440.out
  have hms79_4 := NB466_453.out
  have hs81 : w75.cell? ⟨gb466, 2, none⟩ = some (.slice none 0 0) := (blk_cell BK466.out 2).trans rfl
  have hfs81 := blk_frozen BK466.out 2
  have hns81_0 := NB405_466.out
  have hns81_1 := NB406_466.out
  have hns81_2 := NB429_466.out
  have hns81_3 := NB440_466.out
  have hns81_4 := NB453_466.out
  have hms81_0 := NB466_405.out
  have hms81_1 := NB466_406.out
  have hms81_2 := NB466_429.out
  have hms81_3 := NB466_440.out
  have hms81_4 := NB466_453.out
  refine skip_ (w1 := ?_) (by rfl) rfl ?_ ?_
  rotate_left
  · go_simp
    rfl
  refine hK.out _ _ ⟨((cell_far (p := ⟨gb466, _, none⟩) NB405_466.out _).trans (((cell_far (p := ⟨gb466, _, none⟩) NB405_466.out _).trans (((cell_far (p := ⟨gb466, _, none⟩) NB405_466.out _).trans (hHeld.1)))))), ((cell_far (p := ⟨gb466, _, none⟩) NB405_466.out _).trans (((cell_far (p := ⟨gb466, _, none⟩) NB405_466.out _).trans (((cell_far (p := ⟨gb466, _, none⟩) NB405_466.out _).trans (hHeld.2.1)))))), ((cell_far (p := ⟨gb466, _, none⟩) NB405_466.out _).trans (((cell_far (p := ⟨gb466, _, none⟩) NB405_466.out _).trans (((cell_far (p := ⟨gb466, _, none⟩) NB405_466.out _).trans (hHeld.2.2))))))⟩ (fun hHeld => ?_)
  clear hK K
  refine pure_ (i := 10) (N := some 16) (v := ?_) (a' := ?_) #[true, true, true, true, true, true, true, true, true, true, true, false] rfl rfl (any_of HT_.out (by kernel_rfl)) (fun _ _ _ h => h) (Or.inl ⟨by rfl, ?_⟩) ?_ ?_
  rotate_left
  · intro w'
    go_simp
    with_reducible rfl
  rotate_left
  · simp only [Act.put, List.setIfInBounds_toArray, List.set_cons_zero, List.set_cons_succ, i64_w, i32_w]
    rfl
  refine pure_ (i := 11) (N := some 17) (v := ?_) (a' := ?_) #[true, true, true, true, true, true, true, true, true, true, true, true] rfl rfl (any_of HT_.out (by kernel_rfl)) (fun _ _ _ h => h) (Or.inl ⟨by rfl, ?_⟩) ?_ ?_
  rotate_left
  · intro w'
    go_simp
    with_reducible rfl
  rotate_left
  · simp only [Act.put, List.setIfInBounds_toArray, List.set_cons_zero, List.set_cons_succ, i64_w, i32_w]
    rfl
  refine done_ (done_of HT_.out (by kernel_rfl)) ?_
  have hnb82 := NB429_453.out
  have hnc82 := NB453_429.out
  have hnb83 := NB429_466.out
  have hnc83 := NB466_429.out
  have hcz84_0 : w75.cell? ⟨gb429, 0, none⟩ = some (.slice Ao41 t419.length co41) := (blk_cell BK429.out 0).trans rfl
  have hcz84_1 : w75.cell? ⟨gb429, 1, none⟩ = some (.slice Ao45 t422.length co45) := (blk_cell BK429.out 1).trans rfl
  have hcz84_2 : w75.cell? ⟨gb429, 2, none⟩ = some (.slice Ao46 t425.length co46) := (blk_cell BK429.out 2).trans rfl
  have hfz84_0 := blk_frozen BK429.out 0
  have hfz84_1 := blk_frozen BK429.out 1
  have hfz84_2 := blk_frozen BK429.out 2
  have hnb85 := NB440_453.out
  have hnc85 := NB453_440.out
  have hnb86 := NB440_466.out
  have hnc86 := NB466_440.out
  have hcz87_0 : w75.cell? ⟨gb440, 0, none⟩ = some (.slice Ao51 t430.length co51) := (blk_cell BK440.out 0).trans rfl
  have hcz87_1 : w75.cell? ⟨gb440, 1, none⟩ = some (.slice Ao56 t433.length co56) := (blk_cell BK440.out 1).trans rfl
  have hcz87_2 : w75.cell? ⟨gb440, 2, none⟩ = some (.slice Ao57 t436.length co57) := (blk_cell BK440.out 2).trans rfl
  have hfz87_0 := blk_frozen BK440.out 0
  have hfz87_1 := blk_frozen BK440.out 1
  have hfz87_2 := blk_frozen BK440.out 2
  try go_wp2_with (first | (go_at_call 26; (with_reducible refine (bazaarref06_Same.calls k _ _ t419 _ _ t422 _ _ t425 _ _ t430 _ _ t433 _ _ t436 true _ ?side1 ?side2 ?side3 ?side4 ?side5 ?side6 ?side7 ?side8 ?side9 ?side10 ?side11 ?side12 A15.out).mono ?_); (case side1 => refine (Kd.R_reads' (e := 39) (base := w.heap.size) (ok := fun k_ => (some k_ ≠ (.slice Ao27 t408.length co27 : Value).ownBlock ∧ (some k_ ≠ (.slice Ao51 t430.length co51 : Value).ownBlock ∧ (some k_ ≠ (.slice Ao64 t442.length co64 : Value).ownBlock ∧ (some k_ ≠ (.slice Ao76 t455.length co76 : Value).ownBlock ∧ k_ ≠ gb406))))) (n := t419.length) (c := co41) ?_).2.2; exact (by (with_reducible repeat (first | apply Kd.R_alloc | apply Kd.R_drewN | apply Kd.R_drew)); exact (Kd.R_mono (Kd.R_far (p := ⟨gb466, 2, none⟩) (Kd.R_far (p := ⟨gb466, 1, none⟩) (Kd.R_far (p := ⟨gb466, 0, none⟩) (Kd.R_types HO421.out BK466.out (by decide)) (fun _ hk => hk.2) (.slice Ao76 t455.length co76)) (fun _ hk => hk.2) (.slice Ao78 t458.length co78)) (fun _ hk => hk.2) (.slice Ao80 t461.length co80)) (fun _ h_ => h_.1)))); (case side2 => exact (Kd.R_reads' HO421.out).2.1); (case side3 => refine (Kd.R_reads' (e := 9) (base := w.heap.size) (ok := fun k_ => (some k_ ≠ (.slice Ao29 t411.length co29 : Value).ownBlock ∧ (some k_ ≠ (.slice Ao56 t433.length co56 : Value).ownBlock ∧ (some k_ ≠ (.slice Ao66 t445.length co66 : Value).ownBlock ∧ some k_ ≠ (.slice Ao78 t458.length co78 : Value).ownBlock)))) (n := t422.length) (c := co45) ?_).2.2; exact (by (with_reducible repeat (first | apply Kd.R_alloc | apply Kd.R_drewN | apply Kd.R_drew)); exact (Kd.R_mono (Kd.R_far (p := ⟨gb466, 2, none⟩) (Kd.R_far (p := ⟨gb466, 1, none⟩) (Kd.R_far (p := ⟨gb466, 0, none⟩) (Kd.R_types HO424.out BK466.out (by decide)) (fun _ hk => hk.2) (.slice Ao76 t455.length co76)) (fun _ hk => hk.2) (.slice Ao78 t458.length co78)) (fun _ hk => hk.2) (.slice Ao80 t461.length co80)) (fun _ h_ => h_.1)))); (case side4 => exact (Kd.R_reads' HO424.out).2.1); (case side5 => refine (Kd.R_reads' (e := 65) (base := w.heap.size) (ok := fun k_ => (some k_ ≠ (.slice Ao30 t414.length co30 : Value).ownBlock ∧ (some k_ ≠ (.slice Ao57 t436.length co57 : Value).ownBlock ∧ (some k_ ≠ (.slice Ao68 t448.length co68 : Value).ownBlock ∧ some k_ ≠ (.slice Ao80 t461.length co80 : Value).ownBlock)))) (n := t425.length) (c := co46) ?_).2.2; exact (by (with_reducible repeat (first | apply Kd.R_alloc | apply Kd.R_drewN | apply Kd.R_drew)); exact (Kd.R_mono (Kd.R_far (p := ⟨gb466, 2, none⟩) (Kd.R_far (p := ⟨gb466, 1, none⟩) (Kd.R_far (p := ⟨gb466, 0, none⟩) (Kd.R_types HO427.out BK466.out (by decide)) (fun _ hk => hk.2) (.slice Ao76 t455.length co76)) (fun _ hk => hk.2) (.slice Ao78 t458.length co78)) (fun _ hk => hk.2) (.slice Ao80 t461.length co80)) (fun _ h_ => h_.1)))); (case side6 => exact (Kd.R_reads' HO427.out).2.1); (case side7 => refine (Kd.R_reads' (e := 39) (base := w.heap.size) (ok := fun k_ => (some k_ ≠ (.slice Ao27 t408.length co27 : Value).ownBlock ∧ (some k_ ≠ (.slice Ao41 t419.length co41 : Value).ownBlock ∧ (some k_ ≠ (.slice Ao64 t442.length co64 : Value).ownBlock ∧ (some k_ ≠ (.slice Ao76 t455.length co76 : Value).ownBlock ∧ k_ ≠ gb406))))) (n := t430.length) (c := co51) ?_).2.2; exact (by (with_reducible repeat (first | apply Kd.R_alloc | apply Kd.R_drewN | apply Kd.R_drew)); exact (Kd.R_mono (Kd.R_far (p := ⟨gb466, 2, none⟩) (Kd.R_far (p := ⟨gb466, 1, none⟩) (Kd.R_far (p := ⟨gb466, 0, none⟩) (Kd.R_types HO432.out BK466.out (by decide)) (fun _ hk => hk.2) (.slice Ao76 t455.length co76)) (fun _ hk => hk.2) (.slice Ao78 t458.length co78)) (fun _ hk => hk.2) (.slice Ao80 t461.length co80)) (fun _ h_ => h_.1)))); (case side8 => exact (Kd.R_reads' HO432.out).2.1); (case side9 => refine (Kd.R_reads' (e := 9) (base := w.heap.size) (ok := fun k_ => (some k_ ≠ (.slice Ao29 t411.length co29 : Value).ownBlock ∧ (some k_ ≠ (.slice Ao45 t422.length co45 : Value).ownBlock ∧ (some k_ ≠ (.slice Ao66 t445.length co66 : Value).ownBlock ∧ some k_ ≠ (.slice Ao78 t458.length co78 : Value).ownBlock)))) (n := t433.length) (c := co56) ?_).2.2; exact (by (with_reducible repeat (first | apply Kd.R_alloc | apply Kd.R_drewN | apply Kd.R_drew)); exact (Kd.R_mono (Kd.R_far (p := ⟨gb466, 2, none⟩) (Kd.R_far (p := ⟨gb466, 1, none⟩) (Kd.R_far (p := ⟨gb466, 0, none⟩) (Kd.R_types HO435.out BK466.out (by decide)) (fun _ hk => hk.2) (.slice Ao76 t455.length co76)) (fun _ hk => hk.2) (.slice Ao78 t458.length co78)) (fun _ hk => hk.2) (.slice Ao80 t461.length co80)) (fun _ h_ => h_.1)))); (case side10 => exact (Kd.R_reads' HO435.out).2.1); (case side11 => refine (Kd.R_reads' (e := 65) (base := w.heap.size) (ok := fun k_ => (some k_ ≠ (.slice Ao30 t414.length co30 : Value).ownBlock ∧ (some k_ ≠ (.slice Ao46 t425.length co46 : Value).ownBlock ∧ (some k_ ≠ (.slice Ao68 t448.length co68 : Value).ownBlock ∧ some k_ ≠ (.slice Ao80 t461.length co80 : Value).ownBlock)))) (n := t436.length) (c := co57) ?_).2.2; exact (by (with_reducible repeat (first | apply Kd.R_alloc | apply Kd.R_drewN | apply Kd.R_drew)); exact (Kd.R_mono (Kd.R_far (p := ⟨gb466, 2, none⟩) (Kd.R_far (p := ⟨gb466, 1, none⟩) (Kd.R_far (p := ⟨gb466, 0, none⟩) (Kd.R_types HO438.out BK466.out (by decide)) (fun _ hk => hk.2) (.slice Ao76 t455.length co76)) (fun _ hk => hk.2) (.slice Ao78 t458.length co78)) (fun _ hk => hk.2) (.slice Ao80 t461.length co80)) (fun _ h_ => h_.1)))); (case side12 => exact (Kd.R_reads' HO438.out).2.1); rintro e w88 ⟨rfl, hb⟩; replace HO410 := Aside0.mk (Kd.R_below (by (with_reducible repeat (first | apply Kd.R_alloc | apply Kd.R_drewN | apply Kd.R_drew)); exact (Kd.R_mono (Kd.R_far (p := ⟨gb466, 2, none⟩) (Kd.R_far (p := ⟨gb466, 1, none⟩) (Kd.R_far (p := ⟨gb466, 0, none⟩) (Kd.R_types HO410.out BK466.out (by decide)) (fun _ hk => hk.2) (.slice Ao76 t455.length co76)) (fun _ hk => hk.2) (.slice Ao78 t458.length co78)) (fun _ hk => hk.2) (.slice Ao80 t461.length co80)) (fun _ h_ => h_.1))) hb); replace HO413 := Aside0.mk (Kd.R_below (by (with_reducible repeat (first | apply Kd.R_alloc | apply Kd.R_drewN | apply Kd.R_drew)); exact (Kd.R_mono (Kd.R_far (p := ⟨gb466, 2, none⟩) (Kd.R_far (p := ⟨gb466, 1, none⟩) (Kd.R_far (p := ⟨gb466, 0, none⟩) (Kd.R_types HO413.out BK466.out (by decide)) (fun _ hk => hk.2) (.slice Ao76 t455.length co76)) (fun _ hk => hk.2) (.slice Ao78 t458.length co78)) (fun _ hk => hk.2) (.slice Ao80 t461.length co80)) (fun _ h_ => h_.1))) hb); replace HO416 := Aside0.mk (Kd.R_below (by (with_reducible repeat (first | apply Kd.R_alloc | apply Kd.R_drewN | apply Kd.R_drew)); exact (Kd.R_mono (Kd.R_far (p := ⟨gb466, 2, none⟩) (Kd.R_far (p := ⟨gb466, 1, none⟩) (Kd.R_far (p := ⟨gb466, 0, none⟩) (Kd.R_types HO416.out BK466.out (by decide)) (fun _ hk => hk.2) (.slice Ao76 t455.length co76)) (fun _ hk => hk.2) (.slice Ao78 t458.length co78)) (fun _ hk => hk.2) (.slice Ao80 t461.length co80)) (fun _ h_ => h_.1))) hb); replace HO421 := Aside0.mk (Kd.R_below (by (with_reducible repeat (first | apply Kd.R_alloc | apply Kd.R_drewN | apply Kd.R_drew)); exact (Kd.R_mono (Kd.R_far (p := ⟨gb466, 2, none⟩) (Kd.R_far (p := ⟨gb466, 1, none⟩) (Kd.R_far (p := ⟨gb466, 0, none⟩) (Kd.R_types HO421.out BK466.out (by decide)) (fun _ hk => hk.2) (.slice Ao76 t455.length co76)) (fun _ hk => hk.2) (.slice Ao78 t458.length co78)) (fun _ hk => hk.2) (.slice Ao80 t461.length co80)) (fun _ h_ => h_.1))) hb); replace HO424 := Aside0.mk (Kd.R_below (by (with_reducible repeat (first | apply Kd.R_alloc | apply Kd.R_drewN | apply Kd.R_drew)); exact (Kd.R_mono (Kd.R_far (p := ⟨gb466, 2, none⟩) (Kd.R_far (p := ⟨gb466, 1, none⟩) (Kd.R_far (p := ⟨gb466, 0, none⟩) (Kd.R_types HO424.out BK466.out (by decide)) (fun _ hk => hk.2) (.slice Ao76 t455.length co76)) (fun _ hk => hk.2) (.slice Ao78 t458.length co78)) (fun _ hk => hk.2) (.slice Ao80 t461.length co80)) (fun _ h_ => h_.1))) hb); replace HO427 := Aside0.mk (Kd.R_below (by (with_reducible repeat (first | apply Kd.R_alloc | apply Kd.R_drewN | apply Kd.R_drew)); exact (Kd.R_mono (Kd.R_far (p := ⟨gb466, 2, none⟩) (Kd.R_far (p := ⟨gb466, 1, none⟩) (Kd.R_far (p := ⟨gb466, 0, none⟩) (Kd.R_types HO427.out BK466.out (by decide)) (fun _ hk => hk.2) (.slice Ao76 t455.length co76)) (fun _ hk => hk.2) (.slice Ao78 t458.length co78)) (fun _ hk => hk.2) (.slice Ao80 t461.length co80)) (fun _ h_ => h_.1))) hb); replace HO432 := Aside0.mk (Kd.R_below (by (with_reducible repeat (first | apply Kd.R_alloc | apply Kd.R_drewN | apply Kd.R_drew)); exact (Kd.R_mono (Kd.R_far (p := ⟨gb466, 2, none⟩) (Kd.R_far (p := ⟨gb466, 1, none⟩) (Kd.R_far (p := ⟨gb466, 0, none⟩) (Kd.R_types HO432.out BK466.out (by decide)) (fun _ hk => hk.2) (.slice Ao76 t455.length co76)) (fun _ hk => hk.2) (.slice Ao78 t458.length co78)) (fun _ hk => hk.2) (.slice Ao80 t461.length co80)) (fun _ h_ => h_.1))) hb); replace HO435 := Aside0.mk (Kd.R_below (by (with_reducible repeat (first | apply Kd.R_alloc | apply Kd.R_drewN | apply Kd.R_drew)); exact (Kd.R_mono (Kd.R_far (p := ⟨gb466, 2, none⟩) (Kd.R_far (p := ⟨gb466, 1, none⟩) (Kd.R_far (p := ⟨gb466, 0, none⟩) (Kd.R_types HO435.out BK466.out (by decide)) (fun _ hk => hk.2) (.slice Ao76 t455.length co76)) (fun _ hk => hk.2) (.slice Ao78 t458.length co78)) (fun _ hk => hk.2) (.slice Ao80 t461.length co80)) (fun _ h_ => h_.1))) hb); replace HO438 := Aside0.mk (Kd.R_below (by (with_reducible repeat (first | apply Kd.R_alloc | apply Kd.R_drewN | apply Kd.R_drew)); exact (Kd.R_mono (Kd.R_far (p := ⟨gb466, 2, none⟩) (Kd.R_far (p := ⟨gb466, 1, none⟩) (Kd.R_far (p := ⟨gb466, 0, none⟩) (Kd.R_types HO438.out BK466.out (by decide)) (fun _ hk => hk.2) (.slice Ao76 t455.length co76)) (fun _ hk => hk.2) (.slice Ao78 t458.length co78)) (fun _ hk => hk.2) (.slice Ao80 t461.length co80)) (fun _ h_ => h_.1))) hb); replace HO444 := Aside0.mk (Kd.R_below (by (with_reducible repeat (first | apply Kd.R_alloc | apply Kd.R_drewN | apply Kd.R_drew)); exact (Kd.R_mono (Kd.R_far (p := ⟨gb466, 2, none⟩) (Kd.R_far (p := ⟨gb466, 1, none⟩) (Kd.R_far (p := ⟨gb466, 0, none⟩) (Kd.R_types HO444.out BK466.out (by decide)) (fun _ hk => hk.2) (.slice Ao76 t455.length co76)) (fun _ hk => hk.2) (.slice Ao78 t458.length co78)) (fun _ hk => hk.2) (.slice Ao80 t461.length co80)) (fun _ h_ => h_.1))) hb); replace HO447 := Aside0.mk (Kd.R_below (by (with_reducible repeat (first | apply Kd.R_alloc | apply Kd.R_drewN | apply Kd.R_drew)); exact (Kd.R_mono (Kd.R_far (p := ⟨gb466, 2, none⟩) (Kd.R_far (p := ⟨gb466, 1, none⟩) (Kd.R_far (p := ⟨gb466, 0, none⟩) (Kd.R_types HO447.out BK466.out (by decide)) (fun _ hk => hk.2) (.slice Ao76 t455.length co76)) (fun _ hk => hk.2) (.slice Ao78 t458.length co78)) (fun _ hk => hk.2) (.slice Ao80 t461.length co80)) (fun _ h_ => h_.1))) hb); replace HO450 := Aside0.mk (Kd.R_below (by (with_reducible repeat (first | apply Kd.R_alloc | apply Kd.R_drewN | apply Kd.R_drew)); exact (Kd.R_mono (Kd.R_far (p := ⟨gb466, 2, none⟩) (Kd.R_far (p := ⟨gb466, 1, none⟩) (Kd.R_far (p := ⟨gb466, 0, none⟩) (Kd.R_types HO450.out BK466.out (by decide)) (fun _ hk => hk.2) (.slice Ao76 t455.length co76)) (fun _ hk => hk.2) (.slice Ao78 t458.length co78)) (fun _ hk => hk.2) (.slice Ao80 t461.length co80)) (fun _ h_ => h_.1))) hb); replace HO457 := Aside0.mk (Kd.R_below (by (with_reducible repeat (first | apply Kd.R_alloc | apply Kd.R_drewN | apply Kd.R_drew)); exact (Kd.R_mono (Kd.R_far (p := ⟨gb466, 2, none⟩) (Kd.R_far (p := ⟨gb466, 1, none⟩) (Kd.R_far (p := ⟨gb466, 0, none⟩) (Kd.R_types HO457.out BK466.out (by decide)) (fun _ hk => hk.2) (.slice Ao76 t455.length co76)) (fun _ hk => hk.2) (.slice Ao78 t458.length co78)) (fun _ hk => hk.2) (.slice Ao80 t461.length co80)) (fun _ h_ => h_.1))) hb); replace HO460 := Aside0.mk (Kd.R_below (by (with_reducible repeat (first | apply Kd.R_alloc | apply Kd.R_drewN | apply Kd.R_drew)); exact (Kd.R_mono (Kd.R_far (p := ⟨gb466, 2, none⟩) (Kd.R_far (p := ⟨gb466, 1, none⟩) (Kd.R_far (p := ⟨gb466, 0, none⟩) (Kd.R_types HO460.out BK466.out (by decide)) (fun _ hk => hk.2) (.slice Ao76 t455.length co76)) (fun _ hk => hk.2) (.slice Ao78 t458.length co78)) (fun _ hk => hk.2) (.slice Ao80 t461.length co80)) (fun _ h_ => h_.1))) hb); replace HO463 := Aside0.mk (Kd.R_below (by (with_reducible repeat (first | apply Kd.R_alloc | apply Kd.R_drewN | apply Kd.R_drew)); exact (Kd.R_mono (Kd.R_far (p := ⟨gb466, 2, none⟩) (Kd.R_far (p := ⟨gb466, 1, none⟩) (Kd.R_far (p := ⟨gb466, 0, none⟩) (Kd.R_types HO463.out BK466.out (by decide)) (fun _ hk => hk.2) (.slice Ao76 t455.length co76)) (fun _ hk => hk.2) (.slice Ao78 t458.length co78)) (fun _ hk => hk.2) (.slice Ao80 t461.length co80)) (fun _ h_ => h_.1))) hb); replace BK405 := Aside0.mk (blk_below (g := gb405) (o := .cells #[.slice Ao27 t408.length co27, .slice Ao29 t411.length co29, .slice Ao30 t414.length co30] 26 (0, 0)) (by (with_reducible repeat (first | refine blk_drewN ?_ _ | refine blk_drew ?_ | refine blk_alloc ?_ _)); refine blk_far ?_ NB405_466.out _; (with_reducible repeat (first | refine blk_drewN ?_ _ | refine blk_drew ?_ | refine blk_alloc ?_ _)); refine blk_far ?_ NB405_466.out _; (with_reducible repeat (first | refine blk_drewN ?_ _ | refine blk_drew ?_ | refine blk_alloc ?_ _)); refine blk_far ?_ NB405_466.out _; (with_reducible repeat (first | refine blk_drewN ?_ _ | refine blk_drew ?_ | refine blk_alloc ?_ _)); exact BK405.out) hb); replace BK406 := Aside0.mk (blk_below (g := gb406) (o := .cells #[.string t417, .string t418] 39 (0, 0)) (by (with_reducible repeat (first | refine blk_drewN ?_ _ | refine blk_drew ?_ | refine blk_alloc ?_ _)); refine blk_far ?_ NB406_466.out _; (with_reducible repeat (first | refine blk_drewN ?_ _ | refine blk_drew ?_ | refine blk_alloc ?_ _)); refine blk_far ?_ NB406_466.out _; (with_reducible repeat (first | refine blk_drewN ?_ _ | refine blk_drew ?_ | refine blk_alloc ?_ _)); refine blk_far ?_ NB406_466.out _; (with_reducible repeat (first | refine blk_drewN ?_ _ | refine blk_drew ?_ | refine blk_alloc ?_ _)); exact BK406.out) hb); replace BK429 := Aside0.mk (blk_below (g := gb429) (o := .cells #[.slice Ao41 t419.length co41, .slice Ao45 t422.length co45, .slice Ao46 t425.length co46] 26 (0, 0)) (by (with_reducible repeat (first | refine blk_drewN ?_ _ | refine blk_drew ?_ | refine blk_alloc ?_ _)); refine blk_far ?_ NB429_466.out _; (with_reducible repeat (first | refine blk_drewN ?_ _ | refine blk_drew ?_ | refine blk_alloc ?_ _)); refine blk_far ?_ NB429_466.out _; (with_reducible repeat (first | refine blk_drewN ?_ _ | refine blk_drew ?_ | refine blk_alloc ?_ _)); refine blk_far ?_ NB429_466.out _; (with_reducible repeat (first | refine blk_drewN ?_ _ | refine blk_drew ?_ | refine blk_alloc ?_ _)); exact BK429.out) hb); replace BK440 := Aside0.mk (blk_below (g := gb440) (o := .cells #[.slice Ao51 t430.length co51, .slice Ao56 t433.length co56, .slice Ao57 t436.length co57] 26 (0, 0)) (by (with_reducible repeat (first | refine blk_drewN ?_ _ | refine blk_drew ?_ | refine blk_alloc ?_ _)); refine blk_far ?_ NB440_466.out _; (with_reducible repeat (first | refine blk_drewN ?_ _ | refine blk_drew ?_ | refine blk_alloc ?_ _)); refine blk_far ?_ NB440_466.out _; (with_reducible repeat (first | refine blk_drewN ?_ _ | refine blk_drew ?_ | refine blk_alloc ?_ _)); refine blk_far ?_ NB440_466.out _; (with_reducible repeat (first | refine blk_drewN ?_ _ | refine blk_drew ?_ | refine blk_alloc ?_ _)); exact BK440.out) hb); replace BK453 := Aside0.mk (blk_below (g := gb453) (o := .cells #[.slice Ao64 t442.length co64, .slice Ao66 t445.length co66, .slice Ao68 t448.length co68] 26 (0, 0)) (by (with_reducible repeat (first | refine blk_drewN ?_ _ | refine blk_drew ?_ | refine blk_alloc ?_ _)); refine blk_far ?_ NB453_466.out _; (with_reducible repeat (first | refine blk_drewN ?_ _ | refine blk_drew ?_ | refine blk_alloc ?_ _)); refine blk_far ?_ NB453_466.out _; (with_reducible repeat (first | refine blk_drewN ?_ _ | refine blk_drew ?_ | refine blk_alloc ?_ _)); refine blk_far ?_ NB453_466.out _; (with_reducible repeat (first | refine blk_drewN ?_ _ | refine blk_drew ?_ | refine blk_alloc ?_ _)); exact BK453.out) hb); replace BK466 := Aside0.mk (blk_below (g := gb466) (o := .cells #[.slice Ao76 t455.length co76, .slice Ao78 t458.length co78, .slice Ao80 t461.length co80] 26 (0, 0)) (by (with_reducible repeat (first | refine blk_drewN ?_ _ | refine blk_drew ?_ | refine blk_alloc ?_ _)); refine blk_put (cs := #[.slice Ao76 t455.length co76, .slice Ao78 t458.length co78, .slice none 0 0]) ?_ 2 _ rfl; (with_reducible repeat (first | refine blk_drewN ?_ _ | refine blk_drew ?_ | refine blk_alloc ?_ _)); refine blk_put (cs := #[.slice Ao76 t455.length co76, .slice none 0 0, .slice none 0 0]) ?_ 1 _ rfl; (with_reducible repeat (first | refine blk_drewN ?_ _ | refine blk_drew ?_ | refine blk_alloc ?_ _)); refine blk_put (cs := #[.slice none 0 0, .slice none 0 0, .slice none 0 0]) ?_ 0 _ rfl; (with_reducible repeat (first | refine blk_drewN ?_ _ | refine blk_drew ?_ | refine blk_alloc ?_ _)); exact BK466.out) hb); replace HB := Aside0.mk (below_step (by repeat (first | (with_reducible first | exact HB.out | apply below_alloc | apply pw_below_drewN | apply below_drew1 | refine below_set ?_ GE405.out | refine below_set ?_ GE406.out | refine below_set ?_ GE429.out | refine below_set ?_ GE440.out | refine below_set ?_ GE453.out | refine below_set ?_ GE466.out) | exact HB.out)) hb); (try clear hb); (try clear hb2); (try clear hk); (try clear hi); have hnb89 := NB453_405.out; have hnc89 := NB405_453.out; have hnb90 := NB453_406.out; have hnc90 := NB406_453.out; have hnb91 := NB453_466.out; have hnc91 := NB466_453.out; have hcz92_0 : w88.cell? ⟨gb453, 0, none⟩ = some (.slice Ao64 t442.length co64) := (blk_cell BK453.out 0).trans rfl; have hcz92_1 : w88.cell? ⟨gb453, 1, none⟩ = some (.slice Ao66 t445.length co66) := (blk_cell BK453.out 1).trans rfl; have hcz92_2 : w88.cell? ⟨gb453, 2, none⟩ = some (.slice Ao68 t448.length co68) := (blk_cell BK453.out 2).trans rfl; have hfz92_0 := blk_frozen BK453.out 0; have hfz92_1 := blk_frozen BK453.out 1; have hfz92_2 := blk_frozen BK453.out 2; have hnb93 := NB466_405.out; have hnc93 := NB405_466.out; have hnb94 := NB466_406.out; have hnc94 := NB406_466.out; have hcz95_0 : w88.cell? ⟨gb466, 0, none⟩ = some (.slice Ao76 t455.length co76) := (blk_cell BK466.out 0).trans rfl; have hcz95_1 : w88.cell? ⟨gb466, 1, none⟩ = some (.slice Ao78 t458.length co78) := (blk_cell BK466.out 1).trans rfl; have hcz95_2 : w88.cell? ⟨gb466, 2, none⟩ = some (.slice Ao80 t461.length co80) := (blk_cell BK466.out 2).trans rfl; have hfz95_0 := blk_frozen BK466.out 0; have hfz95_1 := blk_frozen BK466.out 1; have hfz95_2 := blk_frozen BK466.out 2) | (go_at_call 26; (with_reducible refine (bazaarref06_Same.calls k _ _ t442 _ _ t445 _ _ t448 _ _ t455 _ _ t458 _ _ t461 true _ ?side1 ?side2 ?side3 ?side4 ?side5 ?side6 ?side7 ?side8 ?side9 ?side10 ?side11 ?side12 A18.out).mono ?_); (case side1 => repeat (first | exact (Kd.R_reads' HO444.out).2.2 | (with_reducible refine Kd.C_alloc ?_ _) | (with_reducible refine Kd.C_drewN ?_ _) | (with_reducible refine Kd.C_drew ?_))); (case side2 => exact (Kd.R_reads' HO444.out).2.1); (case side3 => repeat (first | exact (Kd.R_reads' HO447.out).2.2 | (with_reducible refine Kd.C_alloc ?_ _) | (with_reducible refine Kd.C_drewN ?_ _) | (with_reducible refine Kd.C_drew ?_))); (case side4 => exact (Kd.R_reads' HO447.out).2.1); (case side5 => repeat (first | exact (Kd.R_reads' HO450.out).2.2 | (with_reducible refine Kd.C_alloc ?_ _) | (with_reducible refine Kd.C_drewN ?_ _) | (with_reducible refine Kd.C_drew ?_))); (case side6 => exact (Kd.R_reads' HO450.out).2.1); (case side7 => repeat (first | exact (Kd.R_reads' HO457.out).2.2 | (with_reducible refine Kd.C_alloc ?_ _) | (with_reducible refine Kd.C_drewN ?_ _) | (with_reducible refine Kd.C_drew ?_))); (case side8 => exact (Kd.R_reads' HO457.out).2.1); (case side9 => repeat (first | exact (Kd.R_reads' HO460.out).2.2 | (with_reducible refine Kd.C_alloc ?_ _) | (with_reducible refine Kd.C_drewN ?_ _) | (with_reducible refine Kd.C_drew ?_))); (case side10 => exact (Kd.R_reads' HO460.out).2.1); (case side11 => repeat (first | exact (Kd.R_reads' HO463.out).2.2 | (with_reducible refine Kd.C_alloc ?_ _) | (with_reducible refine Kd.C_drewN ?_ _) | (with_reducible refine Kd.C_drew ?_))); (case side12 => exact (Kd.R_reads' HO463.out).2.1); rintro e w96 ⟨rfl, hb⟩; replace HO410 := Aside0.mk (Kd.R_below (by (with_reducible repeat (first | apply Kd.R_alloc | apply Kd.R_drewN | apply Kd.R_drew)); exact HO410.out) hb); replace HO413 := Aside0.mk (Kd.R_below (by (with_reducible repeat (first | apply Kd.R_alloc | apply Kd.R_drewN | apply Kd.R_drew)); exact HO413.out) hb); replace HO416 := Aside0.mk (Kd.R_below (by (with_reducible repeat (first | apply Kd.R_alloc | apply Kd.R_drewN | apply Kd.R_drew)); exact HO416.out) hb); replace HO421 := Aside0.mk (Kd.R_below (by (with_reducible repeat (first | apply Kd.R_alloc | apply Kd.R_drewN | apply Kd.R_drew)); exact HO421.out) hb); replace HO424 := Aside0.mk (Kd.R_below (by (with_reducible repeat (first | apply Kd.R_alloc | apply Kd.R_drewN | apply Kd.R_drew)); exact HO424.out) hb); replace HO427 := Aside0.mk (Kd.R_below (by (with_reducible repeat (first | apply Kd.R_alloc | apply Kd.R_drewN | apply Kd.R_drew)); exact HO427.out) hb); replace HO432 := Aside0.mk (Kd.R_below (by (with_reducible repeat (first | apply Kd.R_alloc | apply Kd.R_drewN | apply Kd.R_drew)); exact HO432.out) hb); replace HO435 := Aside0.mk (Kd.R_below (by (with_reducible repeat (first | apply Kd.R_alloc | apply Kd.R_drewN | apply Kd.R_drew)); exact HO435.out) hb); replace HO438 := Aside0.mk (Kd.R_below (by (with_reducible repeat (first | apply Kd.R_alloc | apply Kd.R_drewN | apply Kd.R_drew)); exact HO438.out) hb); replace HO444 := Aside0.mk (Kd.R_below (by (with_reducible repeat (first | apply Kd.R_alloc | apply Kd.R_drewN | apply Kd.R_drew)); exact HO444.out) hb); replace HO447 := Aside0.mk (Kd.R_below (by (with_reducible repeat (first | apply Kd.R_alloc | apply Kd.R_drewN | apply Kd.R_drew)); exact HO447.out) hb); replace HO450 := Aside0.mk (Kd.R_below (by (with_reducible repeat (first | apply Kd.R_alloc | apply Kd.R_drewN | apply Kd.R_drew)); exact HO450.out) hb); replace HO457 := Aside0.mk (Kd.R_below (by (with_reducible repeat (first | apply Kd.R_alloc | apply Kd.R_drewN | apply Kd.R_drew)); exact HO457.out) hb); replace HO460 := Aside0.mk (Kd.R_below (by (with_reducible repeat (first | apply Kd.R_alloc | apply Kd.R_drewN | apply Kd.R_drew)); exact HO460.out) hb); replace HO463 := Aside0.mk (Kd.R_below (by (with_reducible repeat (first | apply Kd.R_alloc | apply Kd.R_drewN | apply Kd.R_drew)); exact HO463.out) hb); replace BK405 := Aside0.mk (blk_below (g := gb405) (o := .cells #[.slice Ao27 t408.length co27, .slice Ao29 t411.length co29, .slice Ao30 t414.length co30] 26 (0, 0)) (by (with_reducible repeat (first | refine blk_drewN ?_ _ | refine blk_drew ?_ | refine blk_alloc ?_ _)); exact BK405.out) hb); replace BK406 := Aside0.mk (blk_below (g := gb406) (o := .cells #[.string t417, .string t418] 39 (0, 0)) (by (with_reducible repeat (first | refine blk_drewN ?_ _ | refine blk_drew ?_ | refine blk_alloc ?_ _)); exact BK406.out) hb); replace BK429 := Aside0.mk (blk_below (g := gb429) (o := .cells #[.slice Ao41 t419.length co41, .slice Ao45 t422.length co45, .slice Ao46 t425.length co46] 26 (0, 0)) (by (with_reducible repeat (first | refine blk_drewN ?_ _ | refine blk_drew ?_ | refine blk_alloc ?_ _)); exact BK429.out) hb); replace BK440 := Aside0.mk (blk_below (g := gb440) (o := .cells #[.slice Ao51 t430.length co51, .slice Ao56 t433.length co56, .slice Ao57 t436.length co57] 26 (0, 0)) (by (with_reducible repeat (first | refine blk_drewN ?_ _ | refine blk_drew ?_ | refine blk_alloc ?_ _)); exact BK440.out) hb); replace BK453 := Aside0.mk (blk_below (g := gb453) (o := .cells #[.slice Ao64 t442.length co64, .slice Ao66 t445.length co66, .slice Ao68 t448.length co68] 26 (0, 0)) (by (with_reducible repeat (first | refine blk_drewN ?_ _ | refine blk_drew ?_ | refine blk_alloc ?_ _)); exact BK453.out) hb); replace BK466 := Aside0.mk (blk_below (g := gb466) (o := .cells #[.slice Ao76 t455.length co76, .slice Ao78 t458.length co78, .slice Ao80 t461.length co80] 26 (0, 0)) (by (with_reducible repeat (first | refine blk_drewN ?_ _ | refine blk_drew ?_ | refine blk_alloc ?_ _)); exact BK466.out) hb); replace HB := Aside0.mk (below_step (by repeat (first | (with_reducible first | exact HB.out | apply below_alloc | apply pw_below_drewN | apply below_drew1 | refine below_set ?_ GE405.out | refine below_set ?_ GE406.out | refine below_set ?_ GE429.out | refine below_set ?_ GE440.out | refine below_set ?_ GE453.out | refine below_set ?_ GE466.out) | exact HB.out)) hb); (try clear hb); (try clear hb2); (try clear hk); (try clear hi)))
  go_ret
  exact ⟨by first | rfl | (simp [errW_none, errW_some] <;> rfl) | (simp [errW_none, errW_some]; exact ⟨rfl, rfl, rfl⟩) | (simp [*, errW_none, errW_some] <;> rfl), by repeat (first | (with_reducible first | exact HB.out | apply below_alloc | apply pw_below_drewN | apply below_drew1 | refine below_set ?_ GE405.out | refine below_set ?_ GE406.out | refine below_set ?_ GE429.out | refine below_set ?_ GE440.out | refine below_set ?_ GE453.out | refine below_set ?_ GE466.out) | exact HB.out)⟩
end Go.Proofs.Ytejempihaknplaa.G
