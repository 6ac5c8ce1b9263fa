-- Written by this session's program genprint.py (the kit's print.py with contracts of this seat's own among the callees). Not trusted: Lean checks it.
import Derived.Test.YtejempihaknplaaGX
import Derived.Test.YtejempihaknplaaGA
import Derived.Test.YtejempihaknplaaGB
import Derived.Test.YtejempihaknplaaGf10
import Derived.Test.YtejempihaknplaaGf11
import Derived.Test.YtejempihaknplaaGf14
import Derived.Test.YtejempihaknplaaGf18
namespace Go.Proofs.Ytejempihaknplaa.G
open Go.RowKit Go.Proofs.YtejempihaknplaaW.PrintWords Go.Proofs.YtejempihaknplaaW.PrintLast Go.Proofs.YtejempihaknplaaW.PrintMore
attribute [local go_sem] max2_int min2_int max_two min_two max_three min_three max_four min_four   -- for this text's walks alone
set_option linter.unusedVariables false
set_option linter.unusedSimpArgs false

/-! ### bazaarlaw06_NodePlaces: function 5 -/
mutual
def bazaarlaw06_NodePlaces.j0 : Nat → ByteArray → Bool → Int → Bool → List (S39) → List ByteArray → List Int → Option (Bool)
  | 0, _, _, _, _, _, _, _ => none
  | k + 1, x1, x5, x6, x37, x211000, x211001, x211002 => if x37 = true then (some false) else (bazaarlaw06_NodePlaces.l0 k x1 x5 x6 0 x211000 x211001 x211002)
def bazaarlaw06_NodePlaces.l0 : Nat → ByteArray → Bool → Int → Int → List (S39) → List ByteArray → List Int → Option (Bool)
  | 0, _, _, _, _, _, _, _ => none
  | k + 1, x1, x5, x6, x7, x211000, x211001, x211002 => if x7 < (x211000.length : Int) then (if 0 ≤ x7 then ((bazaarref06_Less.f k ((rd_T39 x211000 x7).f0) x1).bind fun t225 => (if (t225 != (decide (x7 < x6))) = true then (some false) else (bazaarlaw06_NodePlaces.l0 k x1 x5 x6 (wrap64 (x7 + 1)) x211000 x211001 x211002))) else (none)) else (bazaarlaw06_NodePlaces.l1 k x1 x5 x6 0 x211000 x211001 x211002)
def bazaarlaw06_NodePlaces.l1 : Nat → ByteArray → Bool → Int → Int → List (S39) → List ByteArray → List Int → Option (Bool)
  | 0, _, _, _, _, _, _, _ => none
  | k + 1, x1, x5, x6, x8, x211000, x211001, x211002 => if x8 < (x211001.length : Int) then (if 0 ≤ x8 then ((bazaarref06_Less.f k x1 (rdOf ByteArray.empty x211001 x8)).bind fun t227 => (if (t227 != (decide (x8 ≥ x6))) = true then (some false) else (bazaarlaw06_NodePlaces.l1 k x1 x5 x6 (wrap64 (x8 + 1)) x211000 x211001 x211002))) else (none)) else (some x5)
end
def bazaarlaw06_NodePlaces.f (k : Nat) (l0_0 : List (S39)) (l0_1 : List ByteArray) (l0_2 : List Int) (a1 : ByteArray) : Option (Bool) := (bazaarlaw06_shown.f).bind fun t211 => ((bazaarlaw06_cut.f k l0_0 l0_1 l0_2).bind fun bt212 => ((bazaarlaw06_text.f a1).bind fun t221 => ((node_Place.f k bt212.1 bt212.2.1 bt212.2.2 t221).bind fun t222 => ((node_Right.f k bt212.1 bt212.2.1 bt212.2.2).bind fun t223 => (if t223 = true then (if t222 < 0 then (bazaarlaw06_NodePlaces.j0 k t221 t211 t222 true bt212.1 bt212.2.1 bt212.2.2) else (bazaarlaw06_NodePlaces.j0 k t221 t211 t222 (decide (t222 > (wrap64 ((bt212.1.length : Int) + (bt212.2.1.length : Int))))) bt212.1 bt212.2.1 bt212.2.2)) else (if t211 = true then (some (t222 == 0)) else (some false)))))))
theorem bazaarlaw06_NodePlaces.mono_l : ∀ k, (∀ y0 y1 y2 y3 y4 y5 y6, LeO (bazaarlaw06_NodePlaces.j0 k y0 y1 y2 y3 y4 y5 y6) (bazaarlaw06_NodePlaces.j0 (k + 1) y0 y1 y2 y3 y4 y5 y6)) ∧ (∀ y0 y1 y2 y3 y4 y5 y6, LeO (bazaarlaw06_NodePlaces.l0 k y0 y1 y2 y3 y4 y5 y6) (bazaarlaw06_NodePlaces.l0 (k + 1) y0 y1 y2 y3 y4 y5 y6)) ∧ (∀ y0 y1 y2 y3 y4 y5 y6, LeO (bazaarlaw06_NodePlaces.l1 k y0 y1 y2 y3 y4 y5 y6) (bazaarlaw06_NodePlaces.l1 (k + 1) y0 y1 y2 y3 y4 y5 y6))
  | 0 => ⟨fun _ _ _ _ _ _ _ r h => by simp [bazaarlaw06_NodePlaces.j0] at h, fun _ _ _ _ _ _ _ r h => by simp [bazaarlaw06_NodePlaces.l0] at h, fun _ _ _ _ _ _ _ r h => by simp [bazaarlaw06_NodePlaces.l1] at h⟩
  | k + 1 => by
    obtain ⟨ih0, ih1, ih2⟩ := bazaarlaw06_NodePlaces.mono_l k
    refine ⟨?_, ?_, ?_⟩
    · intro y0 y1 y2 y3 y4 y5 y6
      unfold bazaarlaw06_NodePlaces.j0
      repeat' first
      | (with_reducible exact ih0 _ _ _ _ _ _ _)
      | (with_reducible exact ih1 _ _ _ _ _ _ _)
      | (with_reducible exact ih2 _ _ _ _ _ _ _)
      | (with_reducible exact bazaarlaw06_cut.mono _ _ _ _)
      | (with_reducible exact bazaarref06_Less.mono _ _ _)
      | (with_reducible exact node_Place.mono _ _ _ _ _)
      | (with_reducible exact node_Right.mono _ _ _ _)
      | (with_reducible exact LeO.refl _)
      | (with_reducible exact LeO.none _)
      | (with_reducible refine LeO.ite ?_ ?_)
      | (with_reducible refine LeO.bind ?_ (fun _ => ?_))
      | exact ih0 _ _ _ _ _ _ _
      | exact ih1 _ _ _ _ _ _ _
      | exact ih2 _ _ _ _ _ _ _
      | exact bazaarlaw06_cut.mono _ _ _ _
      | exact bazaarref06_Less.mono _ _ _
      | exact node_Place.mono _ _ _ _ _
      | exact node_Right.mono _ _ _ _
      | exact LeO.none _
      | refine LeO.ite ?_ ?_
      | refine LeO.bind ?_ (fun _ => ?_)
    · intro y0 y1 y2 y3 y4 y5 y6
      unfold bazaarlaw06_NodePlaces.l0
      repeat' first
      | (with_reducible exact ih0 _ _ _ _ _ _ _)
      | (with_reducible exact ih1 _ _ _ _ _ _ _)
      | (with_reducible exact ih2 _ _ _ _ _ _ _)
      | (with_reducible exact bazaarlaw06_cut.mono _ _ _ _)
      | (with_reducible exact bazaarref06_Less.mono _ _ _)
      | (with_reducible exact node_Place.mono _ _ _ _ _)
      | (with_reducible exact node_Right.mono _ _ _ _)
      | (with_reducible exact LeO.refl _)
      | (with_reducible exact LeO.none _)
      | (with_reducible refine LeO.ite ?_ ?_)
      | (with_reducible refine LeO.bind ?_ (fun _ => ?_))
      | exact ih0 _ _ _ _ _ _ _
      | exact ih1 _ _ _ _ _ _ _
      | exact ih2 _ _ _ _ _ _ _
      | exact bazaarlaw06_cut.mono _ _ _ _
      | exact bazaarref06_Less.mono _ _ _
      | exact node_Place.mono _ _ _ _ _
      | exact node_Right.mono _ _ _ _
      | exact LeO.none _
      | refine LeO.ite ?_ ?_
      | refine LeO.bind ?_ (fun _ => ?_)
    · intro y0 y1 y2 y3 y4 y5 y6
      unfold bazaarlaw06_NodePlaces.l1
      repeat' first
      | (with_reducible exact ih0 _ _ _ _ _ _ _)
      | (with_reducible exact ih1 _ _ _ _ _ _ _)
      | (with_reducible exact ih2 _ _ _ _ _ _ _)
      | (with_reducible exact bazaarlaw06_cut.mono _ _ _ _)
      | (with_reducible exact bazaarref06_Less.mono _ _ _)
      | (with_reducible exact node_Place.mono _ _ _ _ _)
      | (with_reducible exact node_Right.mono _ _ _ _)
      | (with_reducible exact LeO.refl _)
      | (with_reducible exact LeO.none _)
      | (with_reducible refine LeO.ite ?_ ?_)
      | (with_reducible refine LeO.bind ?_ (fun _ => ?_))
      | exact ih0 _ _ _ _ _ _ _
      | exact ih1 _ _ _ _ _ _ _
      | exact ih2 _ _ _ _ _ _ _
      | exact bazaarlaw06_cut.mono _ _ _ _
      | exact bazaarref06_Less.mono _ _ _
      | exact node_Place.mono _ _ _ _ _
      | exact node_Right.mono _ _ _ _
      | exact LeO.none _
      | refine LeO.ite ?_ ?_
      | refine LeO.bind ?_ (fun _ => ?_)
theorem bazaarlaw06_NodePlaces.mono : ∀ a0 a1 a2 a3 k, LeO (bazaarlaw06_NodePlaces.f k a0 a1 a2 a3) (bazaarlaw06_NodePlaces.f (k + 1) a0 a1 a2 a3) := by
  intro a0 a1 a2 a3 k
  obtain ⟨ih0, ih1, ih2⟩ := bazaarlaw06_NodePlaces.mono_l k
  unfold bazaarlaw06_NodePlaces.f
  repeat' first
      | (with_reducible exact ih0 _ _ _ _ _ _ _)
      | (with_reducible exact ih1 _ _ _ _ _ _ _)
      | (with_reducible exact ih2 _ _ _ _ _ _ _)
      | (with_reducible exact bazaarlaw06_cut.mono _ _ _ _)
      | (with_reducible exact bazaarref06_Less.mono _ _ _)
      | (with_reducible exact node_Place.mono _ _ _ _ _)
      | (with_reducible exact node_Right.mono _ _ _ _)
      | (with_reducible exact LeO.refl _)
      | (with_reducible exact LeO.none _)
      | (with_reducible refine LeO.ite ?_ ?_)
      | (with_reducible refine LeO.bind ?_ (fun _ => ?_))
      | exact ih0 _ _ _ _ _ _ _
      | exact ih1 _ _ _ _ _ _ _
      | exact ih2 _ _ _ _ _ _ _
      | exact bazaarlaw06_cut.mono _ _ _ _
      | exact bazaarref06_Less.mono _ _ _
      | exact node_Place.mono _ _ _ _ _
      | exact node_Right.mono _ _ _ _
      | exact LeO.none _
      | refine LeO.ite ?_ ?_
      | refine LeO.bind ?_ (fun _ => ?_)
set_option maxHeartbeats 8000000 in
set_option maxRecDepth 100000 in
theorem bazaarlaw06_NodePlaces.calls (k : Nat) (A0_0 : Option Addr) (c0_0 : Nat) (l0_0 : List (S39)) (A0_1 : Option Addr) (c0_1 : Nat) (l0_1 : List ByteArray) (A0_2 : Option Addr) (c0_2 : Nat) (l0_2 : List Int) (a1 : ByteArray) (r : Bool) (w : World) (hr0_0 : Kd.C k39 w A0_0 l0_0.length l0_0) (hc0_0 : l0_0.length ≤ c0_0) (hr0_1 : Kd.C Kd.string w A0_1 l0_1.length l0_1) (hc0_1 : l0_1.length ≤ c0_1) (hr0_2 : Kd.C (Kd.int .u32) w A0_2 l0_2.length l0_2) (hc0_2 : l0_2.length ≤ c0_2) (h : bazaarlaw06_NodePlaces.f k l0_0 l0_1 l0_2 a1 = some r) :
    Calls Try.prog 5 #[.agg #[.slice A0_0 l0_0.length c0_0, .slice A0_1 l0_1.length c0_1, .slice A0_2 l0_2.length c0_2], .string a1] w fun e w' => e = .returned (.bool r) ∧ Below w.heap.size w w' := by
  have hu26 := Try.underlying26
  have HR0_0 := Aside0.mk hr0_0
  have HC0_0 := Aside0.mk hc0_0
  clear hr0_0 hc0_0
  have HR0_1 := Aside0.mk hr0_1
  have HC0_1 := Aside0.mk hc0_1
  clear hr0_1 hc0_1
  have HR0_2 := Aside0.mk hr0_2
  have HC0_2 := Aside0.mk hc0_2
  clear hr0_2 hc0_2
  have HB := Aside0.mk (Below.refl w.heap.size w)
  have H : ((bazaarlaw06_shown.f).bind fun t211 => ((bazaarlaw06_cut.f k l0_0 l0_1 l0_2).bind fun bt212 => ((bazaarlaw06_text.f a1).bind fun t221 => ((node_Place.f k bt212.1 bt212.2.1 bt212.2.2 t221).bind fun t222 => ((node_Right.f k bt212.1 bt212.2.1 bt212.2.2).bind fun t223 => (if t223 = true then (if t222 < 0 then (bazaarlaw06_NodePlaces.j0 k t221 t211 t222 true bt212.1 bt212.2.1 bt212.2.2) else (bazaarlaw06_NodePlaces.j0 k t221 t211 t222 (decide (t222 > (wrap64 ((bt212.1.length : Int) + (bt212.2.1.length : Int))))) bt212.1 bt212.2.1 bt212.2.2)) else (if t211 = true then (some (t222 == 0)) else (some false)))))))) = some r := h
  clear h
  replace H := Option.bind_eq_some_iff.mp H
  obtain ⟨t211, A30, H⟩ := H
  replace H : ((bazaarlaw06_cut.f k l0_0 l0_1 l0_2).bind fun bt212 => ((bazaarlaw06_text.f a1).bind fun t221 => ((node_Place.f k bt212.1 bt212.2.1 bt212.2.2 t221).bind fun t222 => ((node_Right.f k bt212.1 bt212.2.1 bt212.2.2).bind fun t223 => (if t223 = true then (if t222 < 0 then (bazaarlaw06_NodePlaces.j0 k t221 t211 t222 true bt212.1 bt212.2.1 bt212.2.2) else (bazaarlaw06_NodePlaces.j0 k t221 t211 t222 (decide (t222 > (wrap64 ((bt212.1.length : Int) + (bt212.2.1.length : Int))))) bt212.1 bt212.2.1 bt212.2.2)) else (if t211 = true then (some (t222 == 0)) else (some false))))))) = some r := H
  have A3 := Aside0.mk A30
  clear A30
  replace H := Option.bind_eq_some_iff.mp H
  obtain ⟨⟨t212, t215, t218⟩, A40, H⟩ := H
  replace H : ((bazaarlaw06_text.f a1).bind fun t221 => ((node_Place.f k t212 t215 t218 t221).bind fun t222 => ((node_Right.f k t212 t215 t218).bind fun t223 => (if t223 = true then (if t222 < 0 then (bazaarlaw06_NodePlaces.j0 k t221 t211 t222 true t212 t215 t218) else (bazaarlaw06_NodePlaces.j0 k t221 t211 t222 (decide (t222 > (wrap64 ((t212.length : Int) + (t215.length : Int))))) t212 t215 t218)) else (if t211 = true then (some (t222 == 0)) else (some false)))))) = some r := H
  have A4 := Aside0.mk A40
  clear A40
  replace H := Option.bind_eq_some_iff.mp H
  obtain ⟨t221, A50, H⟩ := H
  replace H : ((node_Place.f k t212 t215 t218 t221).bind fun t222 => ((node_Right.f k t212 t215 t218).bind fun t223 => (if t223 = true then (if t222 < 0 then (bazaarlaw06_NodePlaces.j0 k t221 t211 t222 true t212 t215 t218) else (bazaarlaw06_NodePlaces.j0 k t221 t211 t222 (decide (t222 > (wrap64 ((t212.length : Int) + (t215.length : Int))))) t212 t215 t218)) else (if t211 = true then (some (t222 == 0)) else (some false))))) = some r := H
  have A5 := Aside0.mk A50
  clear A50
  replace H := Option.bind_eq_some_iff.mp H
  obtain ⟨t222, A60, H⟩ := H
  replace H : ((node_Right.f k t212 t215 t218).bind fun t223 => (if t223 = true then (if t222 < 0 then (bazaarlaw06_NodePlaces.j0 k t221 t211 t222 true t212 t215 t218) else (bazaarlaw06_NodePlaces.j0 k t221 t211 t222 (decide (t222 > (wrap64 ((t212.length : Int) + (t215.length : Int))))) t212 t215 t218)) else (if t211 = true then (some (t222 == 0)) else (some false)))) = some r := H
  have A6 := Aside0.mk A60
  clear A60
  replace H := Option.bind_eq_some_iff.mp H
  obtain ⟨t223, A70, H⟩ := H
  replace H : (if t223 = true then (if t222 < 0 then (bazaarlaw06_NodePlaces.j0 k t221 t211 t222 true t212 t215 t218) else (bazaarlaw06_NodePlaces.j0 k t221 t211 t222 (decide (t222 > (wrap64 ((t212.length : Int) + (t215.length : Int))))) t212 t215 t218)) else (if t211 = true then (some (t222 == 0)) else (some false))) = some r := H
  have A7 := Aside0.mk A70
  clear A70
  by_cases c8 : t223 = true
  · subst c8
    have H1 : (if t222 < 0 then (bazaarlaw06_NodePlaces.j0 k t221 t211 t222 true t212 t215 t218) else (bazaarlaw06_NodePlaces.j0 k t221 t211 t222 (decide (t222 > (wrap64 ((t212.length : Int) + (t215.length : Int))))) t212 t215 t218)) = some r := by rw [if_pos rfl] at H; exact H
    clear H
    have H := H1
    clear H1
    have HC9 := Aside0.mk H
    clear H
    go_enter Try.func5, Try.ntmps5
    go_upto_region 7 with (first | ((with_reducible refine gate_dst (N := 2) rfl ?_); (try (refine gate_guard (by rfl) ?_; dsimp only)); refine box_event ?hg (N := 2) ?hd (cs := #[.slice A0_0 l0_0.length c0_0, .slice A0_1 l0_1.length c0_1, .slice A0_2 l0_2.length c0_2]) (t := 26) ?hr ?_; (case hd => rfl); (case hg => rfl); (case hr => first | (go_simp; done) | (go_simp; rfl)); intro gb210 hg w10 hbox hb; have n0_ := Aside0.mk (below_step (by repeat (first | (with_reducible first | exact HB.out | apply below_alloc | apply pw_below_drewN | apply below_drew1) | exact HB.out)) hb); have n1_ := Aside0.mk (hbox); have n2_ := Aside0.mk ((by rw [hg]; exact (below_size (by repeat (first | (with_reducible first | exact HB.out | apply below_alloc | apply pw_below_drewN | apply below_drew1) | exact HB.out))) : w.heap.size ≤ gb210)); have n3_ := Aside0.mk ((by rw [hg]; exact (below_size (by repeat (first | (with_reducible first | exact HB.out | apply below_alloc | apply pw_below_drewN | apply below_drew1) | exact HB.out))) : w.heap.size ≤ gb210)); clear HB; have HB := n0_; have BK210 := n1_; have GW210 := n2_; have GE210 := n3_; clear n0_ n1_ n2_ n3_; clear hb hbox hg) | ((with_reducible refine gate_callee (f := 10) rfl ?_); refine goesL_ (some 9) rfl rfl Try.func10 (by kernel_rfl) rfl #[] rfl (by (try simp only [List.map_toArray, List.map_cons, List.map_nil]); first | done | rfl | (simp only [List.length_drop, List.length_take]; rfl)) ?_; (with_reducible refine (bazaarlaw06_shown.calls  t211 _ A3.out).mono ?_); rintro e w11 ⟨rfl, hb⟩; refine ⟨_, rfl, ?_⟩; have n0_ := Aside0.mk (blk_below (g := gb210) (o := .cells #[.slice A0_0 l0_0.length c0_0, .slice A0_1 l0_1.length c0_1, .slice A0_2 l0_2.length c0_2] 26 (0, 0)) (by (with_reducible repeat (first | refine blk_drewN ?_ _ | refine blk_drew ?_ | refine blk_alloc ?_ _)); exact BK210.out) hb); have n1_ := Aside0.mk (below_step (by repeat (first | (with_reducible first | exact HB.out | apply below_alloc | apply pw_below_drewN | apply below_drew1 | refine below_set ?_ GE210.out) | exact HB.out)) hb); clear BK210; clear HB; have BK210 := n0_; have HB := n1_; clear n0_ n1_; (try clear hb); (try clear hb2); (try clear hk); (try clear hi); have hcz12_0 : w11.cell? ⟨gb210, 0, none⟩ = some (.slice A0_0 l0_0.length c0_0) := (blk_cell BK210.out 0).trans rfl; have hcz12_1 : w11.cell? ⟨gb210, 1, none⟩ = some (.slice A0_1 l0_1.length c0_1) := (blk_cell BK210.out 1).trans rfl; have hcz12_2 : w11.cell? ⟨gb210, 2, none⟩ = some (.slice A0_2 l0_2.length c0_2) := (blk_cell BK210.out 2).trans rfl; have hfz12_0 := blk_frozen BK210.out 0; have hfz12_1 := blk_frozen BK210.out 1; have hfz12_2 := blk_frozen BK210.out 2) | ((with_reducible refine gate_callee (f := 11) rfl ?_); refine goesL_ (some 11) rfl rfl Try.func11 (by kernel_rfl) rfl #[.agg #[.slice A0_0 l0_0.length c0_0, .slice A0_1 l0_1.length c0_1, .slice A0_2 l0_2.length c0_2]] rfl (by (try simp only [List.map_toArray, List.map_cons, List.map_nil]); first | done | rfl | (simp only [List.length_drop, List.length_take]; rfl)) ?_; (with_reducible refine (bazaarlaw06_cut.calls k _ _ l0_0 _ _ l0_1 _ _ l0_2 t212 t215 t218 _ ?side1 ?side2 ?side3 ?side4 ?side5 ?side6 A4.out).mono ?_); (case side1 => repeat (first | exact (Kd.C_below HR0_0.out HB.out) | (with_reducible refine Kd.C_alloc ?_ _) | (with_reducible refine Kd.C_drewN ?_ _) | (with_reducible refine Kd.C_drew ?_))); (case side2 => exact HC0_0.out); (case side3 => repeat (first | exact (Kd.C_below HR0_1.out HB.out) | (with_reducible refine Kd.C_alloc ?_ _) | (with_reducible refine Kd.C_drewN ?_ _) | (with_reducible refine Kd.C_drew ?_))); (case side4 => exact HC0_1.out); (case side5 => repeat (first | exact (Kd.C_below HR0_2.out HB.out) | (with_reducible refine Kd.C_alloc ?_ _) | (with_reducible refine Kd.C_drewN ?_ _) | (with_reducible refine Kd.C_drew ?_))); (case side6 => exact HC0_2.out); rintro e w13 ⟨v213, v216, v219, rfl, ho0, ho1, ho2, hb⟩; refine ⟨_, rfl, ?_⟩; have n0_ := Aside0.mk (Kd.R_lower ho0 (below_size (by repeat (first | (with_reducible first | exact HB.out | apply below_alloc | apply pw_below_drewN | apply below_drew1 | refine below_set ?_ GE210.out) | exact HB.out)))); have n1_ := Aside0.mk (Kd.R_lower ho1 (below_size (by repeat (first | (with_reducible first | exact HB.out | apply below_alloc | apply pw_below_drewN | apply below_drew1 | refine below_set ?_ GE210.out) | exact HB.out)))); have n2_ := Aside0.mk (Kd.R_lower ho2 (below_size (by repeat (first | (with_reducible first | exact HB.out | apply below_alloc | apply pw_below_drewN | apply below_drew1 | refine below_set ?_ GE210.out) | exact HB.out)))); have n3_ := Aside0.mk (blk_below (g := gb210) (o := .cells #[.slice A0_0 l0_0.length c0_0, .slice A0_1 l0_1.length c0_1, .slice A0_2 l0_2.length c0_2] 26 (0, 0)) (by (with_reducible repeat (first | refine blk_drewN ?_ _ | refine blk_drew ?_ | refine blk_alloc ?_ _)); exact BK210.out) hb); have n4_ := Aside0.mk (below_step (by repeat (first | (with_reducible first | exact HB.out | apply below_alloc | apply pw_below_drewN | apply below_drew1 | refine below_set ?_ GE210.out) | exact HB.out)) hb); clear BK210; clear HB; have HO214 := n0_; have HO217 := n1_; have HO220 := n2_; have BK210 := n3_; have HB := n4_; clear n0_ n1_ n2_ n3_ n4_; (try clear hb); (try clear hb2); (try clear hk); (try clear hi); (try clear ho0); (try clear ho1); (try clear ho2); obtain ⟨Ao14, co14, eo14⟩ := Kd.R_slice HO214.out; subst eo14; have hcz15_0 : w13.cell? ⟨gb210, 0, none⟩ = some (.slice A0_0 l0_0.length c0_0) := (blk_cell BK210.out 0).trans rfl; have hcz15_1 : w13.cell? ⟨gb210, 1, none⟩ = some (.slice A0_1 l0_1.length c0_1) := (blk_cell BK210.out 1).trans rfl; have hcz15_2 : w13.cell? ⟨gb210, 2, none⟩ = some (.slice A0_2 l0_2.length c0_2) := (blk_cell BK210.out 2).trans rfl; have hfz15_0 := blk_frozen BK210.out 0; have hfz15_1 := blk_frozen BK210.out 1; have hfz15_2 := blk_frozen BK210.out 2; obtain ⟨Ao16, co16, eo16⟩ := Kd.R_slice HO217.out; subst eo16; obtain ⟨Ao17, co17, eo17⟩ := Kd.R_slice HO220.out; subst eo17) | ((with_reducible refine gate_callee (f := 19) rfl ?_); refine goesL_ (some 13) rfl rfl Try.func19 (by kernel_rfl) rfl #[.string a1] rfl (by (try simp only [List.map_toArray, List.map_cons, List.map_nil]); first | done | rfl | (simp only [List.length_drop, List.length_take]; rfl)) ?_; (with_reducible refine (bazaarlaw06_text.calls a1 t221 _ A5.out).mono ?_); rintro e w18 ⟨rfl, hb⟩; refine ⟨_, rfl, ?_⟩; have n0_ := Aside0.mk (Kd.R_below (by (with_reducible repeat (first | apply Kd.R_alloc | apply Kd.R_drewN | apply Kd.R_drew)); exact (Kd.R_mono (Kd.R_far (p := ⟨gb210, 2, none⟩) (Kd.R_far (p := ⟨gb210, 1, none⟩) (Kd.R_far (p := ⟨gb210, 0, none⟩) (Kd.R_types HO214.out BK210.out (by decide)) (fun _ hk => hk.2) (.slice Ao14 t212.length co14)) (fun _ hk => hk.2) (.slice Ao16 t215.length co16)) (fun _ hk => hk.2) (.slice Ao17 t218.length co17)) (fun _ h_ => h_.1))) hb); have n1_ := Aside0.mk (Kd.R_below (by (with_reducible repeat (first | apply Kd.R_alloc | apply Kd.R_drewN | apply Kd.R_drew)); exact (Kd.R_mono (Kd.R_far (p := ⟨gb210, 2, none⟩) (Kd.R_far (p := ⟨gb210, 1, none⟩) (Kd.R_far (p := ⟨gb210, 0, none⟩) (Kd.R_types HO217.out BK210.out (by decide)) (fun _ hk => hk.2) (.slice Ao14 t212.length co14)) (fun _ hk => hk.2) (.slice Ao16 t215.length co16)) (fun _ hk => hk.2) (.slice Ao17 t218.length co17)) (fun _ h_ => h_.1))) hb); have n2_ := Aside0.mk (Kd.R_below (by (with_reducible repeat (first | apply Kd.R_alloc | apply Kd.R_drewN | apply Kd.R_drew)); exact (Kd.R_mono (Kd.R_far (p := ⟨gb210, 2, none⟩) (Kd.R_far (p := ⟨gb210, 1, none⟩) (Kd.R_far (p := ⟨gb210, 0, none⟩) (Kd.R_types HO220.out BK210.out (by decide)) (fun _ hk => hk.2) (.slice Ao14 t212.length co14)) (fun _ hk => hk.2) (.slice Ao16 t215.length co16)) (fun _ hk => hk.2) (.slice Ao17 t218.length co17)) (fun _ h_ => h_.1))) hb); have n3_ := Aside0.mk (blk_below (g := gb210) (o := .cells #[.slice Ao14 t212.length co14, .slice Ao16 t215.length co16, .slice Ao17 t218.length co17] 26 (0, 0)) (by (with_reducible repeat (first | refine blk_drewN ?_ _ | refine blk_drew ?_ | refine blk_alloc ?_ _)); refine blk_put (cs := #[.slice Ao14 t212.length co14, .slice Ao16 t215.length co16, .slice A0_2 l0_2.length c0_2]) ?_ 2 _ rfl; (with_reducible repeat (first | refine blk_drewN ?_ _ | refine blk_drew ?_ | refine blk_alloc ?_ _)); refine blk_put (cs := #[.slice Ao14 t212.length co14, .slice A0_1 l0_1.length c0_1, .slice A0_2 l0_2.length c0_2]) ?_ 1 _ rfl; (with_reducible repeat (first | refine blk_drewN ?_ _ | refine blk_drew ?_ | refine blk_alloc ?_ _)); refine blk_put (cs := #[.slice A0_0 l0_0.length c0_0, .slice A0_1 l0_1.length c0_1, .slice A0_2 l0_2.length c0_2]) ?_ 0 _ rfl; (with_reducible repeat (first | refine blk_drewN ?_ _ | refine blk_drew ?_ | refine blk_alloc ?_ _)); exact BK210.out) hb); have n4_ := Aside0.mk (below_step (by repeat (first | (with_reducible first | exact HB.out | apply below_alloc | apply pw_below_drewN | apply below_drew1 | refine below_set ?_ GE210.out) | exact HB.out)) hb); clear HO214; clear HO217; clear HO220; clear BK210; clear HB; have HO214 := n0_; have HO217 := n1_; have HO220 := n2_; have BK210 := n3_; have HB := n4_; clear n0_ n1_ n2_ n3_ n4_; (try clear hb); (try clear hb2); (try clear hk); (try clear hi); have hcz19_0 : w18.cell? ⟨gb210, 0, none⟩ = some (.slice Ao14 t212.length co14) := (blk_cell BK210.out 0).trans rfl; have hcz19_1 : w18.cell? ⟨gb210, 1, none⟩ = some (.slice Ao16 t215.length co16) := (blk_cell BK210.out 1).trans rfl; have hcz19_2 : w18.cell? ⟨gb210, 2, none⟩ = some (.slice Ao17 t218.length co17) := (blk_cell BK210.out 2).trans rfl; have hfz19_0 := blk_frozen BK210.out 0; have hfz19_1 := blk_frozen BK210.out 1; have hfz19_2 := blk_frozen BK210.out 2) | ((with_reducible refine gate_callee (f := 18) rfl ?_); refine goesL_ (some 16) rfl rfl Try.func18 (by kernel_rfl) rfl #[.agg #[.slice Ao14 t212.length co14, .slice Ao16 t215.length co16, .slice Ao17 t218.length co17], .string t221] rfl (by (try simp only [List.map_toArray, List.map_cons, List.map_nil]); first | done | rfl | (simp only [List.length_drop, List.length_take]; rfl)) ?_; (with_reducible refine (node_Place.calls k _ _ t212 _ _ t215 _ _ t218 t221 t222 _ ?side1 ?side2 ?side3 ?side4 ?side5 ?side6 A6.out).mono ?_); (case side1 => repeat (first | exact (Kd.R_reads' HO214.out).2.2 | (with_reducible refine Kd.C_alloc ?_ _) | (with_reducible refine Kd.C_drewN ?_ _) | (with_reducible refine Kd.C_drew ?_))); (case side2 => exact (Kd.R_reads' HO214.out).2.1); (case side3 => repeat (first | exact (Kd.R_reads' HO217.out).2.2 | (with_reducible refine Kd.C_alloc ?_ _) | (with_reducible refine Kd.C_drewN ?_ _) | (with_reducible refine Kd.C_drew ?_))); (case side4 => exact (Kd.R_reads' HO217.out).2.1); (case side5 => repeat (first | exact (Kd.R_reads' HO220.out).2.2 | (with_reducible refine Kd.C_alloc ?_ _) | (with_reducible refine Kd.C_drewN ?_ _) | (with_reducible refine Kd.C_drew ?_))); (case side6 => exact (Kd.R_reads' HO220.out).2.1); rintro e w20 ⟨rfl, hb⟩; refine ⟨_, rfl, ?_⟩; have n0_ := Aside0.mk (Kd.R_below (by (with_reducible repeat (first | apply Kd.R_alloc | apply Kd.R_drewN | apply Kd.R_drew)); exact HO214.out) hb); have n1_ := Aside0.mk (Kd.R_below (by (with_reducible repeat (first | apply Kd.R_alloc | apply Kd.R_drewN | apply Kd.R_drew)); exact HO217.out) hb); have n2_ := Aside0.mk (Kd.R_below (by (with_reducible repeat (first | apply Kd.R_alloc | apply Kd.R_drewN | apply Kd.R_drew)); exact HO220.out) hb); have n3_ := Aside0.mk (blk_below (g := gb210) (o := .cells #[.slice Ao14 t212.length co14, .slice Ao16 t215.length co16, .slice Ao17 t218.length co17] 26 (0, 0)) (by (with_reducible repeat (first | refine blk_drewN ?_ _ | refine blk_drew ?_ | refine blk_alloc ?_ _)); exact BK210.out) hb); have n4_ := Aside0.mk (below_step (by repeat (first | (with_reducible first | exact HB.out | apply below_alloc | apply pw_below_drewN | apply below_drew1 | refine below_set ?_ GE210.out) | exact HB.out)) hb); clear HO214; clear HO217; clear HO220; clear BK210; clear HB; have HO214 := n0_; have HO217 := n1_; have HO220 := n2_; have BK210 := n3_; have HB := n4_; clear n0_ n1_ n2_ n3_ n4_; (try clear hb); (try clear hb2); (try clear hk); (try clear hi); have hcz21_0 : w20.cell? ⟨gb210, 0, none⟩ = some (.slice Ao14 t212.length co14) := (blk_cell BK210.out 0).trans rfl; have hcz21_1 : w20.cell? ⟨gb210, 1, none⟩ = some (.slice Ao16 t215.length co16) := (blk_cell BK210.out 1).trans rfl; have hcz21_2 : w20.cell? ⟨gb210, 2, none⟩ = some (.slice Ao17 t218.length co17) := (blk_cell BK210.out 2).trans rfl; have hfz21_0 := blk_frozen BK210.out 0; have hfz21_1 := blk_frozen BK210.out 1; have hfz21_2 := blk_frozen BK210.out 2) | ((with_reducible refine gate_callee (f := 14) rfl ?_); refine goesL_ (some 18) rfl rfl Try.func14 (by kernel_rfl) rfl #[.agg #[.slice Ao14 t212.length co14, .slice Ao16 t215.length co16, .slice Ao17 t218.length co17]] rfl (by (try simp only [List.map_toArray, List.map_cons, List.map_nil]); first | done | rfl | (simp only [List.length_drop, List.length_take]; rfl)) ?_; (with_reducible refine (node_Right.calls k _ _ t212 _ _ t215 _ _ t218 true _ ?side1 ?side2 ?side3 ?side4 ?side5 ?side6 A7.out).mono ?_); (case side1 => repeat (first | exact (Kd.R_reads' HO214.out).2.2 | (with_reducible refine Kd.C_alloc ?_ _) | (with_reducible refine Kd.C_drewN ?_ _) | (with_reducible refine Kd.C_drew ?_))); (case side2 => exact (Kd.R_reads' HO214.out).2.1); (case side3 => repeat (first | exact (Kd.R_reads' HO217.out).2.2 | (with_reducible refine Kd.C_alloc ?_ _) | (with_reducible refine Kd.C_drewN ?_ _) | (with_reducible refine Kd.C_drew ?_))); (case side4 => exact (Kd.R_reads' HO217.out).2.1); (case side5 => repeat (first | exact (Kd.R_reads' HO220.out).2.2 | (with_reducible refine Kd.C_alloc ?_ _) | (with_reducible refine Kd.C_drewN ?_ _) | (with_reducible refine Kd.C_drew ?_))); (case side6 => exact (Kd.R_reads' HO220.out).2.1); rintro e w22 ⟨rfl, hb⟩; refine ⟨_, rfl, ?_⟩; have n0_ := Aside0.mk (Kd.R_below (by (with_reducible repeat (first | apply Kd.R_alloc | apply Kd.R_drewN | apply Kd.R_drew)); exact HO214.out) hb); have n1_ := Aside0.mk (Kd.R_below (by (with_reducible repeat (first | apply Kd.R_alloc | apply Kd.R_drewN | apply Kd.R_drew)); exact HO217.out) hb); have n2_ := Aside0.mk (Kd.R_below (by (with_reducible repeat (first | apply Kd.R_alloc | apply Kd.R_drewN | apply Kd.R_drew)); exact HO220.out) hb); have n3_ := Aside0.mk (blk_below (g := gb210) (o := .cells #[.slice Ao14 t212.length co14, .slice Ao16 t215.length co16, .slice Ao17 t218.length co17] 26 (0, 0)) (by (with_reducible repeat (first | refine blk_drewN ?_ _ | refine blk_drew ?_ | refine blk_alloc ?_ _)); exact BK210.out) hb); have n4_ := Aside0.mk (below_step (by repeat (first | (with_reducible first | exact HB.out | apply below_alloc | apply pw_below_drewN | apply below_drew1 | refine below_set ?_ GE210.out) | exact HB.out)) hb); clear HO214; clear HO217; clear HO220; clear BK210; clear HB; have HO214 := n0_; have HO217 := n1_; have HO220 := n2_; have BK210 := n3_; have HB := n4_; clear n0_ n1_ n2_ n3_ n4_; (try clear hb); (try clear hb2); (try clear hk); (try clear hi)))
    (try simp only [Act.put, List.setIfInBounds_toArray, List.set_cons_zero, List.set_cons_succ])
    go_cut [37] (fun v37 wc => ∃ (kq : Nat) (x37_8 : Bool), v37 = .bool x37_8 ∧ Aside0 (bazaarlaw06_NodePlaces.j0 kq t221 t211 t222 x37_8 t212 t215 t218 = some r) ∧ Aside0 (kq ≤ k) ∧ Aside0 (Kd.R k39 39 wc w.heap.size (fun _ => True) (.slice Ao14 t212.length co14) t212) ∧ Aside0 (Kd.R Kd.string 9 wc w.heap.size (fun _ => True) (.slice Ao16 t215.length co16) t215) ∧ Aside0 (Kd.R (Kd.int .u32) 65 wc w.heap.size (fun _ => True) (.slice Ao17 t218.length co17) t218) ∧ Aside0 (wc.heap[gb210]? = some (.cells #[(.slice Ao14 t212.length co14), (.slice Ao16 t215.length co16), (.slice Ao17 t218.length co17)] 26 (0, 0))) ∧ Aside0 (Below w.heap.size w wc))
    case first =>
      have H := HC9.out
      clear HC9
      by_cases c23 : t222 < 0
      · rw [if_pos c23] at H
        have c23b0 : decide (t222 < 0) = true := decide_eq_true c23
        clear c23
        (first | rw [c23b0] | (simp only [i64_w, i32_w]; rw [c23b0]) | skip)
        have H' := Aside0.mk H
        clear H
        go_wp2
        go_meet
        case rel => exact ⟨_, (true), (by first | rfl | (simp; done) | (simp [*]; done)), H', ⟨by first | omega | exact Nat.le_refl _⟩, ⟨by (with_reducible repeat (first | apply Kd.R_alloc | apply Kd.R_drewN | apply Kd.R_drew)); exact HO214.out⟩, ⟨by (with_reducible repeat (first | apply Kd.R_alloc | apply Kd.R_drewN | apply Kd.R_drew)); exact HO217.out⟩, ⟨by (with_reducible repeat (first | apply Kd.R_alloc | apply Kd.R_drewN | apply Kd.R_drew)); exact HO220.out⟩, ⟨by (with_reducible repeat (first | refine blk_drewN ?_ _ | refine blk_drew ?_ | refine blk_alloc ?_ _)); exact BK210.out⟩, ⟨by repeat (first | (with_reducible first | exact HB.out | apply below_alloc | apply pw_below_drewN | apply below_drew1 | refine below_set ?_ GE210.out) | exact HB.out)⟩⟩
      · rw [if_neg c23] at H
        have c23b0 : decide (t222 < 0) = false := decide_eq_false c23
        clear c23
        (first | rw [c23b0] | (simp only [i64_w, i32_w]; rw [c23b0]) | skip)
        have H' := Aside0.mk H
        clear H
        have hcz24_0 : w22.cell? ⟨gb210, 0, none⟩ = some (.slice Ao14 t212.length co14) := (blk_cell BK210.out 0).trans rfl
        have hcz24_1 : w22.cell? ⟨gb210, 1, none⟩ = some (.slice Ao16 t215.length co16) := (blk_cell BK210.out 1).trans rfl
        have hcz24_2 : w22.cell? ⟨gb210, 2, none⟩ = some (.slice Ao17 t218.length co17) := (blk_cell BK210.out 2).trans rfl
        have hfz24_0 := blk_frozen BK210.out 0
        have hfz24_1 := blk_frozen BK210.out 1
        have hfz24_2 := blk_frozen BK210.out 2
        go_wp2
        go_meet
        case rel => exact ⟨_, (decide (t222 > (wrap64 ((t212.length : Int) + (t215.length : Int))))), (by first | rfl | (simp; done) | (simp [*]; done)), H', ⟨by first | omega | exact Nat.le_refl _⟩, ⟨by (with_reducible repeat (first | apply Kd.R_alloc | apply Kd.R_drewN | apply Kd.R_drew)); exact HO214.out⟩, ⟨by (with_reducible repeat (first | apply Kd.R_alloc | apply Kd.R_drewN | apply Kd.R_drew)); exact HO217.out⟩, ⟨by (with_reducible repeat (first | apply Kd.R_alloc | apply Kd.R_drewN | apply Kd.R_drew)); exact HO220.out⟩, ⟨by (with_reducible repeat (first | refine blk_drewN ?_ _ | refine blk_drew ?_ | refine blk_alloc ?_ _)); exact BK210.out⟩, ⟨by repeat (first | (with_reducible first | exact HB.out | apply below_alloc | apply pw_below_drewN | apply below_drew1 | refine below_set ?_ GE210.out) | exact HB.out)⟩⟩
    case rest =>
      clear HC9
      try clear c1
      try clear c2
      try clear p2
      try clear c5
      try clear p6
      try clear c8
      try clear c10
      try clear c11
      try clear c14
      try clear c18
      try clear c19
      try clear c23
      try clear c23b0
      try clear hcz12_0
      try clear hcz12_1
      try clear hcz12_2
      try clear hcz15_0
      try clear hcz15_1
      try clear hcz15_2
      try clear hcz19_0
      try clear hcz19_1
      try clear hcz19_2
      try clear hcz21_0
      try clear hcz21_1
      try clear hcz21_2
      try clear hcz24_0
      try clear hcz24_1
      try clear hcz24_2
      try clear hfz12_0
      try clear hfz12_1
      try clear hfz12_2
      try clear hfz15_0
      try clear hfz15_1
      try clear hfz15_2
      try clear hfz19_0
      try clear hfz19_1
      try clear hfz19_2
      try clear hfz21_0
      try clear hfz21_1
      try clear hfz21_2
      try clear hfz24_0
      try clear hfz24_1
      try clear hfz24_2
      obtain ⟨kq, x37_8, rfl, HA, HJ8, HO_211000, HO_211001, HO_211002, BK210, HB⟩ := hcut
      cases kq with
      | zero => exact absurd HA.out (by simp [bazaarlaw06_NodePlaces.j0])
      | succ kj8 =>
        have H := HA.out
        clear HA
        simp only [bazaarlaw06_NodePlaces.j0] at H
        by_cases c25 : x37_8 = true
        · subst c25
          have H1 : (some false) = some r := by rw [if_pos rfl] at H; exact H
          clear H
          have H := H1
          clear H1
          obtain rfl := Option.some.inj H
          go_wp2
          go_ret
          exact ⟨by first | rfl | (simp [errW_none, errW_some] <;> rfl) | (simp [errW_none, errW_some]; exact ⟨rfl, rfl, rfl⟩) | (simp [*, errW_none, errW_some] <;> rfl), by repeat (first | (with_reducible first | exact HB.out | apply below_alloc | apply pw_below_drewN | apply below_drew1 | refine below_set ?_ GE210.out) | exact HB.out)⟩
        · replace c25 := Bool.eq_false_iff.mpr c25
          subst c25
          have H1 : (bazaarlaw06_NodePlaces.l0 kj8 t221 t211 t222 0 t212 t215 t218) = some r := by rw [if_neg (show ¬ (false = true) by decide)] at H; exact H
          clear H
          have H := H1
          clear H1
          have H' := Aside0.mk H
          clear H
          go_wp2
          go_loopg [7] kj8 (fun kq v7 w' => ∃ (x7_2 : Int), v7 = .int .i64 x7_2 ∧ Aside0 (bazaarlaw06_NodePlaces.l0 kq t221 t211 t222 x7_2 t212 t215 t218 = some r) ∧ Aside0 (kq ≤ kj8) ∧ Aside0 (Kd.R k39 39 w' w.heap.size (fun _ => True) (.slice Ao14 t212.length co14) t212) ∧ Aside0 (Kd.R Kd.string 9 w' w.heap.size (fun _ => True) (.slice Ao16 t215.length co16) t215) ∧ Aside0 (Kd.R (Kd.int .u32) 65 w' w.heap.size (fun _ => True) (.slice Ao17 t218.length co17) t218) ∧ Aside0 (w'.heap[gb210]? = some (.cells #[(.slice Ao14 t212.length co14), (.slice Ao16 t215.length co16), (.slice Ao17 t218.length co17)] 26 (0, 0))) ∧ Aside0 (Below w.heap.size w w'))
          case atStart => exact ⟨(0), (by first | rfl | (simp; done) | (simp [*]; done)), H', ⟨Nat.le_refl _⟩, ⟨by (with_reducible repeat (first | apply Kd.R_alloc | apply Kd.R_drewN | apply Kd.R_drew)); exact HO_211000.out⟩, ⟨by (with_reducible repeat (first | apply Kd.R_alloc | apply Kd.R_drewN | apply Kd.R_drew)); exact HO_211001.out⟩, ⟨by (with_reducible repeat (first | apply Kd.R_alloc | apply Kd.R_drewN | apply Kd.R_drew)); exact HO_211002.out⟩, ⟨by (with_reducible repeat (first | refine blk_drewN ?_ _ | refine blk_drew ?_ | refine blk_alloc ?_ _)); exact BK210.out⟩, ⟨by repeat (first | (with_reducible first | exact HB.out | apply below_alloc | apply pw_below_drewN | apply below_drew1 | refine below_set ?_ GE210.out) | exact HB.out)⟩⟩
          case round =>
            clear H'
            try clear c1
            try clear c2
            try clear p2
            try clear c5
            try clear p6
            try clear c8
            try clear c10
            try clear c11
            try clear c14
            try clear c18
            try clear c19
            try clear c23
            try clear c23b0
            try clear c25
            try clear hcz12_0
            try clear hcz12_1
            try clear hcz12_2
            try clear hcz15_0
            try clear hcz15_1
            try clear hcz15_2
            try clear hcz19_0
            try clear hcz19_1
            try clear hcz19_2
            try clear hcz21_0
            try clear hcz21_1
            try clear hcz21_2
            try clear hcz24_0
            try clear hcz24_1
            try clear hcz24_2
            try clear hfz12_0
            try clear hfz12_1
            try clear hfz12_2
            try clear hfz15_0
            try clear hfz15_1
            try clear hfz15_2
            try clear hfz19_0
            try clear hfz19_1
            try clear hfz19_2
            try clear hfz21_0
            try clear hfz21_1
            try clear hfz21_2
            try clear hfz24_0
            try clear hfz24_1
            try clear hfz24_2
            try clear p2
            try clear p6
            obtain ⟨x7_2, rfl, HA, HK2, HO_211000, HO_211001, HO_211002, BK210, HB⟩ := hrel
            cases gk with
            | zero => exact absurd HA.out (by simp [bazaarlaw06_NodePlaces.l0])
            | succ k2 =>
              have H := HA.out
              clear HA
              simp only [bazaarlaw06_NodePlaces.l0] at H
              by_cases c26 : x7_2 < (t212.length : Int)
              · rw [if_pos c26] at H
                have c26b0 : decide (x7_2 < (t212.length : Int)) = true := decide_eq_true c26
                clear c26
                by_cases c27 : 0 ≤ x7_2
                · rw [if_pos c27] at H
                  have c27b0 : decide (0 ≤ x7_2) = true := decide_eq_true c27
                  clear c27
                  replace H := Option.bind_eq_some_iff.mp H
                  obtain ⟨t225, A280, H⟩ := H
                  replace H : (if (t225 != (decide (x7_2 < t222))) = true then (some false) else (bazaarlaw06_NodePlaces.l0 k2 t221 t211 t222 (wrap64 (x7_2 + 1)) t212 t215 t218)) = some r := H
                  have A28 := Aside0.mk A280
                  clear A280
                  by_cases c29 : (t225 != (decide (x7_2 < t222))) = true
                  · rw [if_pos c29] at H
                    have c29b0 : (t225 != (decide (x7_2 < t222))) = true := c29
                    (try (have c29b1 : decide (t225 = (decide (x7_2 < t222))) = false := by simpa using c29))
                    (try (have c29b2 : (t225 == (decide (x7_2 < t222))) = false := by simpa using c29))
                    (try (have c29b3 : ¬ (t225 = (decide (x7_2 < t222))) := by simpa using c29))
                    clear c29
                    obtain rfl := Option.some.inj H
                    have hcz30_0 : wr.cell? ⟨gb210, 0, none⟩ = some (.slice Ao14 t212.length co14) := (blk_cell BK210.out 0).trans rfl
                    have hcz30_1 : wr.cell? ⟨gb210, 1, none⟩ = some (.slice Ao16 t215.length co16) := (blk_cell BK210.out 1).trans rfl
                    have hcz30_2 : wr.cell? ⟨gb210, 2, none⟩ = some (.slice Ao17 t218.length co17) := (blk_cell BK210.out 2).trans rfl
                    have hfz30_0 := blk_frozen BK210.out 0
                    have hfz30_1 := blk_frozen BK210.out 1
                    have hfz30_2 := blk_frozen BK210.out 2
                    have p224 : 0 ≤ (x7_2 : Int) := of_decide_eq_true (by first | (with_reducible assumption) | assumption)
                    have q224 : x7_2 < (t212.length : Int) := of_decide_eq_true (by first | (with_reducible assumption) | assumption)
                    obtain ⟨ad224, e224, hx224_0, hx224_1⟩ := at_T39 (Kd.R_reads' HO_211000.out).2.2 x7_2 p224 q224
                    cases e224
                    replace p224 := eq_true p224
                    replace q224 := eq_true q224
                    go_wp2_with (first | ((with_reducible refine gate_callee (f := 21) rfl ?_); refine goesL_ (some 52) rfl rfl Try.func21 (by kernel_rfl) rfl #[.string ((rd_T39 t212 x7_2).f0), .string t221] rfl (by (try simp only [List.map_toArray, List.map_cons, List.map_nil]); first | done | rfl | (simp only [List.length_drop, List.length_take]; rfl)) ?_; (with_reducible refine (bazaarref06_Less.calls k2 ((rd_T39 t212 x7_2).f0) t221 t225 _ A28.out).mono ?_); rintro e w' ⟨rfl, ⟨nd, rfl⟩⟩; refine ⟨_, rfl, ?_⟩))
                    go_ret
                    exact ⟨by first | rfl | (simp [errW_none, errW_some] <;> rfl) | (simp [errW_none, errW_some]; exact ⟨rfl, rfl, rfl⟩) | (simp [*, errW_none, errW_some] <;> rfl), by repeat (first | (with_reducible first | exact HB.out | apply below_alloc | apply pw_below_drewN | apply below_drew1 | refine below_set ?_ GE210.out) | exact HB.out)⟩
                  · rw [if_neg c29] at H
                    have c29b0 : (t225 != (decide (x7_2 < t222))) = false := by simpa using c29
                    (try (have c29b1 : decide (t225 = (decide (x7_2 < t222))) = true := by simpa using c29))
                    (try (have c29b2 : (t225 == (decide (x7_2 < t222))) = true := by simpa using c29))
                    clear c29
                    have H' := Aside0.mk H
                    clear H
                    have hcz31_0 : wr.cell? ⟨gb210, 0, none⟩ = some (.slice Ao14 t212.length co14) := (blk_cell BK210.out 0).trans rfl
                    have hcz31_1 : wr.cell? ⟨gb210, 1, none⟩ = some (.slice Ao16 t215.length co16) := (blk_cell BK210.out 1).trans rfl
                    have hcz31_2 : wr.cell? ⟨gb210, 2, none⟩ = some (.slice Ao17 t218.length co17) := (blk_cell BK210.out 2).trans rfl
                    have hfz31_0 := blk_frozen BK210.out 0
                    have hfz31_1 := blk_frozen BK210.out 1
                    have hfz31_2 := blk_frozen BK210.out 2
                    have p224 : 0 ≤ (x7_2 : Int) := of_decide_eq_true (by first | (with_reducible assumption) | assumption)
                    have q224 : x7_2 < (t212.length : Int) := of_decide_eq_true (by first | (with_reducible assumption) | assumption)
                    obtain ⟨ad224, e224, hx224_0, hx224_1⟩ := at_T39 (Kd.R_reads' HO_211000.out).2.2 x7_2 p224 q224
                    cases e224
                    replace p224 := eq_true p224
                    replace q224 := eq_true q224
                    go_wp2_with (first | ((with_reducible refine gate_callee (f := 21) rfl ?_); refine goesL_ (some 52) rfl rfl Try.func21 (by kernel_rfl) rfl #[.string ((rd_T39 t212 x7_2).f0), .string t221] rfl (by (try simp only [List.map_toArray, List.map_cons, List.map_nil]); first | done | rfl | (simp only [List.length_drop, List.length_take]; rfl)) ?_; (with_reducible refine (bazaarref06_Less.calls k2 ((rd_T39 t212 x7_2).f0) t221 t225 _ A28.out).mono ?_); rintro e w' ⟨rfl, ⟨nd, rfl⟩⟩; refine ⟨_, rfl, ?_⟩))
                    go_roundg k2
                    case measure => have := HJ8.out; have := HK2.out; omega
                    case rel => exact ⟨(wrap64 (x7_2 + 1)), (by first | rfl | (simp; done) | (simp [*]; done)), H', ⟨by have := HJ8.out; have := HK2.out; omega⟩, ⟨by (with_reducible repeat (first | apply Kd.R_alloc | apply Kd.R_drewN | apply Kd.R_drew)); exact HO_211000.out⟩, ⟨by (with_reducible repeat (first | apply Kd.R_alloc | apply Kd.R_drewN | apply Kd.R_drew)); exact HO_211001.out⟩, ⟨by (with_reducible repeat (first | apply Kd.R_alloc | apply Kd.R_drewN | apply Kd.R_drew)); exact HO_211002.out⟩, ⟨by (with_reducible repeat (first | refine blk_drewN ?_ _ | refine blk_drew ?_ | refine blk_alloc ?_ _)); exact BK210.out⟩, ⟨by repeat (first | (with_reducible first | exact HB.out | apply below_alloc | apply pw_below_drewN | apply below_drew1 | refine below_set ?_ GE210.out) | exact HB.out)⟩⟩
                · rw [if_neg c27] at H
                  exact absurd H (by simp)
              · rw [if_neg c26] at H
                have c26b0 : decide (x7_2 < (t212.length : Int)) = false := decide_eq_false c26
                clear c26
                have H' := Aside0.mk H
                clear H
                have hcz32_0 : wr.cell? ⟨gb210, 0, none⟩ = some (.slice Ao14 t212.length co14) := (blk_cell BK210.out 0).trans rfl
                have hcz32_1 : wr.cell? ⟨gb210, 1, none⟩ = some (.slice Ao16 t215.length co16) := (blk_cell BK210.out 1).trans rfl
                have hcz32_2 : wr.cell? ⟨gb210, 2, none⟩ = some (.slice Ao17 t218.length co17) := (blk_cell BK210.out 2).trans rfl
                have hfz32_0 := blk_frozen BK210.out 0
                have hfz32_1 := blk_frozen BK210.out 1
                have hfz32_2 := blk_frozen BK210.out 2
                go_wp2
                go_loopg [8] k2 (fun kq v8 w' => ∃ (x8_3 : Int), v8 = .int .i64 x8_3 ∧ Aside0 (bazaarlaw06_NodePlaces.l1 kq t221 t211 t222 x8_3 t212 t215 t218 = some r) ∧ Aside0 (kq ≤ k2) ∧ Aside0 (Kd.R k39 39 w' w.heap.size (fun _ => True) (.slice Ao14 t212.length co14) t212) ∧ Aside0 (Kd.R Kd.string 9 w' w.heap.size (fun _ => True) (.slice Ao16 t215.length co16) t215) ∧ Aside0 (Kd.R (Kd.int .u32) 65 w' w.heap.size (fun _ => True) (.slice Ao17 t218.length co17) t218) ∧ Aside0 (w'.heap[gb210]? = some (.cells #[(.slice Ao14 t212.length co14), (.slice Ao16 t215.length co16), (.slice Ao17 t218.length co17)] 26 (0, 0))) ∧ Aside0 (Below w.heap.size w w'))
                case atStart => exact ⟨(0), (by first | rfl | (simp; done) | (simp [*]; done)), H', ⟨Nat.le_refl _⟩, ⟨by (with_reducible repeat (first | apply Kd.R_alloc | apply Kd.R_drewN | apply Kd.R_drew)); exact HO_211000.out⟩, ⟨by (with_reducible repeat (first | apply Kd.R_alloc | apply Kd.R_drewN | apply Kd.R_drew)); exact HO_211001.out⟩, ⟨by (with_reducible repeat (first | apply Kd.R_alloc | apply Kd.R_drewN | apply Kd.R_drew)); exact HO_211002.out⟩, ⟨by (with_reducible repeat (first | refine blk_drewN ?_ _ | refine blk_drew ?_ | refine blk_alloc ?_ _)); exact BK210.out⟩, ⟨by repeat (first | (with_reducible first | exact HB.out | apply below_alloc | apply pw_below_drewN | apply below_drew1 | refine below_set ?_ GE210.out) | exact HB.out)⟩⟩
                case round =>
                  clear H'
                  try clear c1
                  try clear c2
                  try clear p2
                  try clear q2
                  try clear hx2
                  try clear c5
                  try clear p6
                  try clear c8
                  try clear c10
                  try clear c11
                  try clear c14
                  try clear c18
                  try clear c19
                  try clear c21
                  try clear p22
                  try clear q22
                  try clear hx22
                  try clear c23
                  try clear c23b0
                  try clear c25
                  try clear c26
                  try clear c26b0
                  try clear c27
                  try clear c27b0
                  try clear c29
                  try clear c29b0
                  try clear c29b1
                  try clear c29b2
                  try clear hcz12_0
                  try clear hcz12_1
                  try clear hcz12_2
                  try clear hcz15_0
                  try clear hcz15_1
                  try clear hcz15_2
                  try clear hcz19_0
                  try clear hcz19_1
                  try clear hcz19_2
                  try clear hcz21_0
                  try clear hcz21_1
                  try clear hcz21_2
                  try clear hcz24_0
                  try clear hcz24_1
                  try clear hcz24_2
                  try clear hcz30_0
                  try clear hcz30_1
                  try clear hcz30_2
                  try clear hcz31_0
                  try clear hcz31_1
                  try clear hcz31_2
                  try clear hcz32_0
                  try clear hcz32_1
                  try clear hcz32_2
                  try clear hfz12_0
                  try clear hfz12_1
                  try clear hfz12_2
                  try clear hfz15_0
                  try clear hfz15_1
                  try clear hfz15_2
                  try clear hfz19_0
                  try clear hfz19_1
                  try clear hfz19_2
                  try clear hfz21_0
                  try clear hfz21_1
                  try clear hfz21_2
                  try clear hfz24_0
                  try clear hfz24_1
                  try clear hfz24_2
                  try clear hfz30_0
                  try clear hfz30_1
                  try clear hfz30_2
                  try clear hfz31_0
                  try clear hfz31_1
                  try clear hfz31_2
                  try clear hfz32_0
                  try clear hfz32_1
                  try clear hfz32_2
                  try clear hx224_0
                  try clear hx224_1
                  try clear p2
                  try clear p224
                  try clear p6
                  try clear q224
                  obtain ⟨x8_3, rfl, HA, HK3, HO_211000, HO_211001, HO_211002, BK210, HB⟩ := hrel
                  cases gk with
                  | zero => exact absurd HA.out (by simp [bazaarlaw06_NodePlaces.l1])
                  | succ k3 =>
                    have H := HA.out
                    clear HA
                    simp only [bazaarlaw06_NodePlaces.l1] at H
                    by_cases c33 : x8_3 < (t215.length : Int)
                    · rw [if_pos c33] at H
                      have c33b0 : decide (x8_3 < (t215.length : Int)) = true := decide_eq_true c33
                      clear c33
                      by_cases c34 : 0 ≤ x8_3
                      · rw [if_pos c34] at H
                        have c34b0 : decide (0 ≤ x8_3) = true := decide_eq_true c34
                        clear c34
                        replace H := Option.bind_eq_some_iff.mp H
                        obtain ⟨t227, A350, H⟩ := H
                        replace H : (if (t227 != (decide (x8_3 ≥ t222))) = true then (some false) else (bazaarlaw06_NodePlaces.l1 k3 t221 t211 t222 (wrap64 (x8_3 + 1)) t212 t215 t218)) = some r := H
                        have A35 := Aside0.mk A350
                        clear A350
                        by_cases c36 : (t227 != (decide (x8_3 ≥ t222))) = true
                        · rw [if_pos c36] at H
                          have c36b0 : (t227 != (decide (x8_3 ≥ t222))) = true := c36
                          (try (have c36b1 : decide (t227 = (decide (x8_3 ≥ t222))) = false := by simpa using c36))
                          (try (have c36b2 : (t227 == (decide (x8_3 ≥ t222))) = false := by simpa using c36))
                          (try (have c36b3 : ¬ (t227 = (decide (x8_3 ≥ t222))) := by simpa using c36))
                          clear c36
                          obtain rfl := Option.some.inj H
                          have hcz37_0 : wr.cell? ⟨gb210, 0, none⟩ = some (.slice Ao14 t212.length co14) := (blk_cell BK210.out 0).trans rfl
                          have hcz37_1 : wr.cell? ⟨gb210, 1, none⟩ = some (.slice Ao16 t215.length co16) := (blk_cell BK210.out 1).trans rfl
                          have hcz37_2 : wr.cell? ⟨gb210, 2, none⟩ = some (.slice Ao17 t218.length co17) := (blk_cell BK210.out 2).trans rfl
                          have hfz37_0 := blk_frozen BK210.out 0
                          have hfz37_1 := blk_frozen BK210.out 1
                          have hfz37_2 := blk_frozen BK210.out 2
                          have p226 : 0 ≤ (x8_3 : Int) := of_decide_eq_true (by first | (with_reducible assumption) | assumption)
                          have q226 : x8_3 < (t215.length : Int) := of_decide_eq_true (by first | (with_reducible assumption) | assumption)
                          obtain ⟨ad226, e226, hx226_0⟩ := Kd.at_string (Kd.R_reads' HO_211001.out).2.2 x8_3 p226 q226
                          cases e226
                          replace p226 := eq_true p226
                          replace q226 := eq_true q226
                          go_wp2_with (first | ((with_reducible refine gate_callee (f := 21) rfl ?_); refine goesL_ (some 70) rfl rfl Try.func21 (by kernel_rfl) rfl #[.string t221, .string (rdOf ByteArray.empty t215 x8_3)] rfl (by (try simp only [List.map_toArray, List.map_cons, List.map_nil]); first | done | rfl | (simp only [List.length_drop, List.length_take]; rfl)) ?_; (with_reducible refine (bazaarref06_Less.calls k3 t221 (rdOf ByteArray.empty t215 x8_3) t227 _ A35.out).mono ?_); rintro e w' ⟨rfl, ⟨nd, rfl⟩⟩; refine ⟨_, rfl, ?_⟩))
                          go_ret
                          exact ⟨by first | rfl | (simp [errW_none, errW_some] <;> rfl) | (simp [errW_none, errW_some]; exact ⟨rfl, rfl, rfl⟩) | (simp [*, errW_none, errW_some] <;> rfl), by repeat (first | (with_reducible first | exact HB.out | apply below_alloc | apply pw_below_drewN | apply below_drew1 | refine below_set ?_ GE210.out) | exact HB.out)⟩
                        · rw [if_neg c36] at H
                          have c36b0 : (t227 != (decide (x8_3 ≥ t222))) = false := by simpa using c36
                          (try (have c36b1 : decide (t227 = (decide (x8_3 ≥ t222))) = true := by simpa using c36))
                          (try (have c36b2 : (t227 == (decide (x8_3 ≥ t222))) = true := by simpa using c36))
                          clear c36
                          have H' := Aside0.mk H
                          clear H
                          have hcz38_0 : wr.cell? ⟨gb210, 0, none⟩ = some (.slice Ao14 t212.length co14) := (blk_cell BK210.out 0).trans rfl
                          have hcz38_1 : wr.cell? ⟨gb210, 1, none⟩ = some (.slice Ao16 t215.length co16) := (blk_cell BK210.out 1).trans rfl
                          have hcz38_2 : wr.cell? ⟨gb210, 2, none⟩ = some (.slice Ao17 t218.length co17) := (blk_cell BK210.out 2).trans rfl
                          have hfz38_0 := blk_frozen BK210.out 0
                          have hfz38_1 := blk_frozen BK210.out 1
                          have hfz38_2 := blk_frozen BK210.out 2
                          have p226 : 0 ≤ (x8_3 : Int) := of_decide_eq_true (by first | (with_reducible assumption) | assumption)
                          have q226 : x8_3 < (t215.length : Int) := of_decide_eq_true (by first | (with_reducible assumption) | assumption)
                          obtain ⟨ad226, e226, hx226_0⟩ := Kd.at_string (Kd.R_reads' HO_211001.out).2.2 x8_3 p226 q226
                          cases e226
                          replace p226 := eq_true p226
                          replace q226 := eq_true q226
                          go_wp2_with (first | ((with_reducible refine gate_callee (f := 21) rfl ?_); refine goesL_ (some 70) rfl rfl Try.func21 (by kernel_rfl) rfl #[.string t221, .string (rdOf ByteArray.empty t215 x8_3)] rfl (by (try simp only [List.map_toArray, List.map_cons, List.map_nil]); first | done | rfl | (simp only [List.length_drop, List.length_take]; rfl)) ?_; (with_reducible refine (bazaarref06_Less.calls k3 t221 (rdOf ByteArray.empty t215 x8_3) t227 _ A35.out).mono ?_); rintro e w' ⟨rfl, ⟨nd, rfl⟩⟩; refine ⟨_, rfl, ?_⟩))
                          go_roundg k3
                          case measure => have := HJ8.out; have := HK2.out; have := HK3.out; omega
                          case rel => exact ⟨(wrap64 (x8_3 + 1)), (by first | rfl | (simp; done) | (simp [*]; done)), H', ⟨by have := HJ8.out; have := HK2.out; have := HK3.out; omega⟩, ⟨by (with_reducible repeat (first | apply Kd.R_alloc | apply Kd.R_drewN | apply Kd.R_drew)); exact HO_211000.out⟩, ⟨by (with_reducible repeat (first | apply Kd.R_alloc | apply Kd.R_drewN | apply Kd.R_drew)); exact HO_211001.out⟩, ⟨by (with_reducible repeat (first | apply Kd.R_alloc | apply Kd.R_drewN | apply Kd.R_drew)); exact HO_211002.out⟩, ⟨by (with_reducible repeat (first | refine blk_drewN ?_ _ | refine blk_drew ?_ | refine blk_alloc ?_ _)); exact BK210.out⟩, ⟨by repeat (first | (with_reducible first | exact HB.out | apply below_alloc | apply pw_below_drewN | apply below_drew1 | refine below_set ?_ GE210.out) | exact HB.out)⟩⟩
                      · rw [if_neg c34] at H
                        exact absurd H (by simp)
                    · rw [if_neg c33] at H
                      have c33b0 : decide (x8_3 < (t215.length : Int)) = false := decide_eq_false c33
                      clear c33
                      obtain rfl := Option.some.inj H
                      have hcz39_0 : wr.cell? ⟨gb210, 0, none⟩ = some (.slice Ao14 t212.length co14) := (blk_cell BK210.out 0).trans rfl
                      have hcz39_1 : wr.cell? ⟨gb210, 1, none⟩ = some (.slice Ao16 t215.length co16) := (blk_cell BK210.out 1).trans rfl
                      have hcz39_2 : wr.cell? ⟨gb210, 2, none⟩ = some (.slice Ao17 t218.length co17) := (blk_cell BK210.out 2).trans rfl
                      have hfz39_0 := blk_frozen BK210.out 0
                      have hfz39_1 := blk_frozen BK210.out 1
                      have hfz39_2 := blk_frozen BK210.out 2
                      go_wp2
                      go_ret
                      exact ⟨by first | rfl | (simp [errW_none, errW_some] <;> rfl) | (simp [errW_none, errW_some]; exact ⟨rfl, rfl, rfl⟩) | (simp [*, errW_none, errW_some] <;> rfl), by repeat (first | (with_reducible first | exact HB.out | apply below_alloc | apply pw_below_drewN | apply below_drew1 | refine below_set ?_ GE210.out) | exact HB.out)⟩
  · replace c8 := Bool.eq_false_iff.mpr c8
    subst c8
    have H1 : (if t211 = true then (some (t222 == 0)) else (some false)) = some r := by rw [if_neg (show ¬ (false = true) by decide)] at H; exact H
    clear H
    have H := H1
    clear H1
    by_cases c40 : t211 = true
    · subst c40
      have H1 : (some (t222 == 0)) = some r := by rw [if_pos rfl] at H; exact H
      clear H
      have H := H1
      clear H1
      obtain rfl := Option.some.inj H
      go_enter Try.func5, Try.ntmps5
      go_wp2_with (first | ((with_reducible refine gate_dst (N := 2) rfl ?_); (try (refine gate_guard (by rfl) ?_; dsimp only)); refine box_event ?hg (N := 2) ?hd (cs := #[.slice A0_0 l0_0.length c0_0, .slice A0_1 l0_1.length c0_1, .slice A0_2 l0_2.length c0_2]) (t := 26) ?hr ?_; (case hd => rfl); (case hg => rfl); (case hr => first | (go_simp; done) | (go_simp; rfl)); intro gb210 hg w41 hbox hb; have n0_ := Aside0.mk (below_step (by repeat (first | (with_reducible first | exact HB.out | apply below_alloc | apply pw_below_drewN | apply below_drew1) | exact HB.out)) hb); have n1_ := Aside0.mk (hbox); have n2_ := Aside0.mk ((by rw [hg]; exact (below_size (by repeat (first | (with_reducible first | exact HB.out | apply below_alloc | apply pw_below_drewN | apply below_drew1) | exact HB.out))) : w.heap.size ≤ gb210)); have n3_ := Aside0.mk ((by rw [hg]; exact (below_size (by repeat (first | (with_reducible first | exact HB.out | apply below_alloc | apply pw_below_drewN | apply below_drew1) | exact HB.out))) : w.heap.size ≤ gb210)); clear HB; have HB := n0_; have BK210 := n1_; have GW210 := n2_; have GE210 := n3_; clear n0_ n1_ n2_ n3_; clear hb hbox hg) | ((with_reducible refine gate_callee (f := 10) rfl ?_); refine goesL_ (some 9) rfl rfl Try.func10 (by kernel_rfl) rfl #[] rfl (by (try simp only [List.map_toArray, List.map_cons, List.map_nil]); first | done | rfl | (simp only [List.length_drop, List.length_take]; rfl)) ?_; (with_reducible refine (bazaarlaw06_shown.calls  true _ A3.out).mono ?_); rintro e w42 ⟨rfl, hb⟩; refine ⟨_, rfl, ?_⟩; have n0_ := Aside0.mk (blk_below (g := gb210) (o := .cells #[.slice A0_0 l0_0.length c0_0, .slice A0_1 l0_1.length c0_1, .slice A0_2 l0_2.length c0_2] 26 (0, 0)) (by (with_reducible repeat (first | refine blk_drewN ?_ _ | refine blk_drew ?_ | refine blk_alloc ?_ _)); exact BK210.out) hb); have n1_ := Aside0.mk (below_step (by repeat (first | (with_reducible first | exact HB.out | apply below_alloc | apply pw_below_drewN | apply below_drew1 | refine below_set ?_ GE210.out) | exact HB.out)) hb); clear BK210; clear HB; have BK210 := n0_; have HB := n1_; clear n0_ n1_; (try clear hb); (try clear hb2); (try clear hk); (try clear hi); have hcz43_0 : w42.cell? ⟨gb210, 0, none⟩ = some (.slice A0_0 l0_0.length c0_0) := (blk_cell BK210.out 0).trans rfl; have hcz43_1 : w42.cell? ⟨gb210, 1, none⟩ = some (.slice A0_1 l0_1.length c0_1) := (blk_cell BK210.out 1).trans rfl; have hcz43_2 : w42.cell? ⟨gb210, 2, none⟩ = some (.slice A0_2 l0_2.length c0_2) := (blk_cell BK210.out 2).trans rfl; have hfz43_0 := blk_frozen BK210.out 0; have hfz43_1 := blk_frozen BK210.out 1; have hfz43_2 := blk_frozen BK210.out 2) | ((with_reducible refine gate_callee (f := 11) rfl ?_); refine goesL_ (some 11) rfl rfl Try.func11 (by kernel_rfl) rfl #[.agg #[.slice A0_0 l0_0.length c0_0, .slice A0_1 l0_1.length c0_1, .slice A0_2 l0_2.length c0_2]] rfl (by (try simp only [List.map_toArray, List.map_cons, List.map_nil]); first | done | rfl | (simp only [List.length_drop, List.length_take]; rfl)) ?_; (with_reducible refine (bazaarlaw06_cut.calls k _ _ l0_0 _ _ l0_1 _ _ l0_2 t212 t215 t218 _ ?side1 ?side2 ?side3 ?side4 ?side5 ?side6 A4.out).mono ?_); (case side1 => repeat (first | exact (Kd.C_below HR0_0.out HB.out) | (with_reducible refine Kd.C_alloc ?_ _) | (with_reducible refine Kd.C_drewN ?_ _) | (with_reducible refine Kd.C_drew ?_))); (case side2 => exact HC0_0.out); (case side3 => repeat (first | exact (Kd.C_below HR0_1.out HB.out) | (with_reducible refine Kd.C_alloc ?_ _) | (with_reducible refine Kd.C_drewN ?_ _) | (with_reducible refine Kd.C_drew ?_))); (case side4 => exact HC0_1.out); (case side5 => repeat (first | exact (Kd.C_below HR0_2.out HB.out) | (with_reducible refine Kd.C_alloc ?_ _) | (with_reducible refine Kd.C_drewN ?_ _) | (with_reducible refine Kd.C_drew ?_))); (case side6 => exact HC0_2.out); rintro e w44 ⟨v213, v216, v219, rfl, ho0, ho1, ho2, hb⟩; refine ⟨_, rfl, ?_⟩; have n0_ := Aside0.mk (Kd.R_lower ho0 (below_size (by repeat (first | (with_reducible first | exact HB.out | apply below_alloc | apply pw_below_drewN | apply below_drew1 | refine below_set ?_ GE210.out) | exact HB.out)))); have n1_ := Aside0.mk (Kd.R_lower ho1 (below_size (by repeat (first | (with_reducible first | exact HB.out | apply below_alloc | apply pw_below_drewN | apply below_drew1 | refine below_set ?_ GE210.out) | exact HB.out)))); have n2_ := Aside0.mk (Kd.R_lower ho2 (below_size (by repeat (first | (with_reducible first | exact HB.out | apply below_alloc | apply pw_below_drewN | apply below_drew1 | refine below_set ?_ GE210.out) | exact HB.out)))); have n3_ := Aside0.mk (blk_below (g := gb210) (o := .cells #[.slice A0_0 l0_0.length c0_0, .slice A0_1 l0_1.length c0_1, .slice A0_2 l0_2.length c0_2] 26 (0, 0)) (by (with_reducible repeat (first | refine blk_drewN ?_ _ | refine blk_drew ?_ | refine blk_alloc ?_ _)); exact BK210.out) hb); have n4_ := Aside0.mk (below_step (by repeat (first | (with_reducible first | exact HB.out | apply below_alloc | apply pw_below_drewN | apply below_drew1 | refine below_set ?_ GE210.out) | exact HB.out)) hb); clear BK210; clear HB; have HO214 := n0_; have HO217 := n1_; have HO220 := n2_; have BK210 := n3_; have HB := n4_; clear n0_ n1_ n2_ n3_ n4_; (try clear hb); (try clear hb2); (try clear hk); (try clear hi); (try clear ho0); (try clear ho1); (try clear ho2); obtain ⟨Ao45, co45, eo45⟩ := Kd.R_slice HO214.out; subst eo45; have hcz46_0 : w44.cell? ⟨gb210, 0, none⟩ = some (.slice A0_0 l0_0.length c0_0) := (blk_cell BK210.out 0).trans rfl; have hcz46_1 : w44.cell? ⟨gb210, 1, none⟩ = some (.slice A0_1 l0_1.length c0_1) := (blk_cell BK210.out 1).trans rfl; have hcz46_2 : w44.cell? ⟨gb210, 2, none⟩ = some (.slice A0_2 l0_2.length c0_2) := (blk_cell BK210.out 2).trans rfl; have hfz46_0 := blk_frozen BK210.out 0; have hfz46_1 := blk_frozen BK210.out 1; have hfz46_2 := blk_frozen BK210.out 2; obtain ⟨Ao47, co47, eo47⟩ := Kd.R_slice HO217.out; subst eo47; obtain ⟨Ao48, co48, eo48⟩ := Kd.R_slice HO220.out; subst eo48) | ((with_reducible refine gate_callee (f := 19) rfl ?_); refine goesL_ (some 13) rfl rfl Try.func19 (by kernel_rfl) rfl #[.string a1] rfl (by (try simp only [List.map_toArray, List.map_cons, List.map_nil]); first | done | rfl | (simp only [List.length_drop, List.length_take]; rfl)) ?_; (with_reducible refine (bazaarlaw06_text.calls a1 t221 _ A5.out).mono ?_); rintro e w49 ⟨rfl, hb⟩; refine ⟨_, rfl, ?_⟩; have n0_ := Aside0.mk (Kd.R_below (by (with_reducible repeat (first | apply Kd.R_alloc | apply Kd.R_drewN | apply Kd.R_drew)); exact (Kd.R_mono (Kd.R_far (p := ⟨gb210, 2, none⟩) (Kd.R_far (p := ⟨gb210, 1, none⟩) (Kd.R_far (p := ⟨gb210, 0, none⟩) (Kd.R_types HO214.out BK210.out (by decide)) (fun _ hk => hk.2) (.slice Ao45 t212.length co45)) (fun _ hk => hk.2) (.slice Ao47 t215.length co47)) (fun _ hk => hk.2) (.slice Ao48 t218.length co48)) (fun _ h_ => h_.1))) hb); have n1_ := Aside0.mk (Kd.R_below (by (with_reducible repeat (first | apply Kd.R_alloc | apply Kd.R_drewN | apply Kd.R_drew)); exact (Kd.R_mono (Kd.R_far (p := ⟨gb210, 2, none⟩) (Kd.R_far (p := ⟨gb210, 1, none⟩) (Kd.R_far (p := ⟨gb210, 0, none⟩) (Kd.R_types HO217.out BK210.out (by decide)) (fun _ hk => hk.2) (.slice Ao45 t212.length co45)) (fun _ hk => hk.2) (.slice Ao47 t215.length co47)) (fun _ hk => hk.2) (.slice Ao48 t218.length co48)) (fun _ h_ => h_.1))) hb); have n2_ := Aside0.mk (Kd.R_below (by (with_reducible repeat (first | apply Kd.R_alloc | apply Kd.R_drewN | apply Kd.R_drew)); exact (Kd.R_mono (Kd.R_far (p := ⟨gb210, 2, none⟩) (Kd.R_far (p := ⟨gb210, 1, none⟩) (Kd.R_far (p := ⟨gb210, 0, none⟩) (Kd.R_types HO220.out BK210.out (by decide)) (fun _ hk => hk.2) (.slice Ao45 t212.length co45)) (fun _ hk => hk.2) (.slice Ao47 t215.length co47)) (fun _ hk => hk.2) (.slice Ao48 t218.length co48)) (fun _ h_ => h_.1))) hb); have n3_ := Aside0.mk (blk_below (g := gb210) (o := .cells #[.slice Ao45 t212.length co45, .slice Ao47 t215.length co47, .slice Ao48 t218.length co48] 26 (0, 0)) (by (with_reducible repeat (first | refine blk_drewN ?_ _ | refine blk_drew ?_ | refine blk_alloc ?_ _)); refine blk_put (cs := #[.slice Ao45 t212.length co45, .slice Ao47 t215.length co47, .slice A0_2 l0_2.length c0_2]) ?_ 2 _ rfl; (with_reducible repeat (first | refine blk_drewN ?_ _ | refine blk_drew ?_ | refine blk_alloc ?_ _)); refine blk_put (cs := #[.slice Ao45 t212.length co45, .slice A0_1 l0_1.length c0_1, .slice A0_2 l0_2.length c0_2]) ?_ 1 _ rfl; (with_reducible repeat (first | refine blk_drewN ?_ _ | refine blk_drew ?_ | refine blk_alloc ?_ _)); refine blk_put (cs := #[.slice A0_0 l0_0.length c0_0, .slice A0_1 l0_1.length c0_1, .slice A0_2 l0_2.length c0_2]) ?_ 0 _ rfl; (with_reducible repeat (first | refine blk_drewN ?_ _ | refine blk_drew ?_ | refine blk_alloc ?_ _)); exact BK210.out) hb); have n4_ := Aside0.mk (below_step (by repeat (first | (with_reducible first | exact HB.out | apply below_alloc | apply pw_below_drewN | apply below_drew1 | refine below_set ?_ GE210.out) | exact HB.out)) hb); clear HO214; clear HO217; clear HO220; clear BK210; clear HB; have HO214 := n0_; have HO217 := n1_; have HO220 := n2_; have BK210 := n3_; have HB := n4_; clear n0_ n1_ n2_ n3_ n4_; (try clear hb); (try clear hb2); (try clear hk); (try clear hi); have hcz50_0 : w49.cell? ⟨gb210, 0, none⟩ = some (.slice Ao45 t212.length co45) := (blk_cell BK210.out 0).trans rfl; have hcz50_1 : w49.cell? ⟨gb210, 1, none⟩ = some (.slice Ao47 t215.length co47) := (blk_cell BK210.out 1).trans rfl; have hcz50_2 : w49.cell? ⟨gb210, 2, none⟩ = some (.slice Ao48 t218.length co48) := (blk_cell BK210.out 2).trans rfl; have hfz50_0 := blk_frozen BK210.out 0; have hfz50_1 := blk_frozen BK210.out 1; have hfz50_2 := blk_frozen BK210.out 2) | ((with_reducible refine gate_callee (f := 18) rfl ?_); refine goesL_ (some 16) rfl rfl Try.func18 (by kernel_rfl) rfl #[.agg #[.slice Ao45 t212.length co45, .slice Ao47 t215.length co47, .slice Ao48 t218.length co48], .string t221] rfl (by (try simp only [List.map_toArray, List.map_cons, List.map_nil]); first | done | rfl | (simp only [List.length_drop, List.length_take]; rfl)) ?_; (with_reducible refine (node_Place.calls k _ _ t212 _ _ t215 _ _ t218 t221 t222 _ ?side1 ?side2 ?side3 ?side4 ?side5 ?side6 A6.out).mono ?_); (case side1 => repeat (first | exact (Kd.R_reads' HO214.out).2.2 | (with_reducible refine Kd.C_alloc ?_ _) | (with_reducible refine Kd.C_drewN ?_ _) | (with_reducible refine Kd.C_drew ?_))); (case side2 => exact (Kd.R_reads' HO214.out).2.1); (case side3 => repeat (first | exact (Kd.R_reads' HO217.out).2.2 | (with_reducible refine Kd.C_alloc ?_ _) | (with_reducible refine Kd.C_drewN ?_ _) | (with_reducible refine Kd.C_drew ?_))); (case side4 => exact (Kd.R_reads' HO217.out).2.1); (case side5 => repeat (first | exact (Kd.R_reads' HO220.out).2.2 | (with_reducible refine Kd.C_alloc ?_ _) | (with_reducible refine Kd.C_drewN ?_ _) | (with_reducible refine Kd.C_drew ?_))); (case side6 => exact (Kd.R_reads' HO220.out).2.1); rintro e w51 ⟨rfl, hb⟩; refine ⟨_, rfl, ?_⟩; have n0_ := Aside0.mk (Kd.R_below (by (with_reducible repeat (first | apply Kd.R_alloc | apply Kd.R_drewN | apply Kd.R_drew)); exact HO214.out) hb); have n1_ := Aside0.mk (Kd.R_below (by (with_reducible repeat (first | apply Kd.R_alloc | apply Kd.R_drewN | apply Kd.R_drew)); exact HO217.out) hb); have n2_ := Aside0.mk (Kd.R_below (by (with_reducible repeat (first | apply Kd.R_alloc | apply Kd.R_drewN | apply Kd.R_drew)); exact HO220.out) hb); have n3_ := Aside0.mk (blk_below (g := gb210) (o := .cells #[.slice Ao45 t212.length co45, .slice Ao47 t215.length co47, .slice Ao48 t218.length co48] 26 (0, 0)) (by (with_reducible repeat (first | refine blk_drewN ?_ _ | refine blk_drew ?_ | refine blk_alloc ?_ _)); exact BK210.out) hb); have n4_ := Aside0.mk (below_step (by repeat (first | (with_reducible first | exact HB.out | apply below_alloc | apply pw_below_drewN | apply below_drew1 | refine below_set ?_ GE210.out) | exact HB.out)) hb); clear HO214; clear HO217; clear HO220; clear BK210; clear HB; have HO214 := n0_; have HO217 := n1_; have HO220 := n2_; have BK210 := n3_; have HB := n4_; clear n0_ n1_ n2_ n3_ n4_; (try clear hb); (try clear hb2); (try clear hk); (try clear hi); have hcz52_0 : w51.cell? ⟨gb210, 0, none⟩ = some (.slice Ao45 t212.length co45) := (blk_cell BK210.out 0).trans rfl; have hcz52_1 : w51.cell? ⟨gb210, 1, none⟩ = some (.slice Ao47 t215.length co47) := (blk_cell BK210.out 1).trans rfl; have hcz52_2 : w51.cell? ⟨gb210, 2, none⟩ = some (.slice Ao48 t218.length co48) := (blk_cell BK210.out 2).trans rfl; have hfz52_0 := blk_frozen BK210.out 0; have hfz52_1 := blk_frozen BK210.out 1; have hfz52_2 := blk_frozen BK210.out 2) | ((with_reducible refine gate_callee (f := 14) rfl ?_); refine goesL_ (some 18) rfl rfl Try.func14 (by kernel_rfl) rfl #[.agg #[.slice Ao45 t212.length co45, .slice Ao47 t215.length co47, .slice Ao48 t218.length co48]] rfl (by (try simp only [List.map_toArray, List.map_cons, List.map_nil]); first | done | rfl | (simp only [List.length_drop, List.length_take]; rfl)) ?_; (with_reducible refine (node_Right.calls k _ _ t212 _ _ t215 _ _ t218 false _ ?side1 ?side2 ?side3 ?side4 ?side5 ?side6 A7.out).mono ?_); (case side1 => repeat (first | exact (Kd.R_reads' HO214.out).2.2 | (with_reducible refine Kd.C_alloc ?_ _) | (with_reducible refine Kd.C_drewN ?_ _) | (with_reducible refine Kd.C_drew ?_))); (case side2 => exact (Kd.R_reads' HO214.out).2.1); (case side3 => repeat (first | exact (Kd.R_reads' HO217.out).2.2 | (with_reducible refine Kd.C_alloc ?_ _) | (with_reducible refine Kd.C_drewN ?_ _) | (with_reducible refine Kd.C_drew ?_))); (case side4 => exact (Kd.R_reads' HO217.out).2.1); (case side5 => repeat (first | exact (Kd.R_reads' HO220.out).2.2 | (with_reducible refine Kd.C_alloc ?_ _) | (with_reducible refine Kd.C_drewN ?_ _) | (with_reducible refine Kd.C_drew ?_))); (case side6 => exact (Kd.R_reads' HO220.out).2.1); rintro e w53 ⟨rfl, hb⟩; refine ⟨_, rfl, ?_⟩; have n0_ := Aside0.mk (Kd.R_below (by (with_reducible repeat (first | apply Kd.R_alloc | apply Kd.R_drewN | apply Kd.R_drew)); exact HO214.out) hb); have n1_ := Aside0.mk (Kd.R_below (by (with_reducible repeat (first | apply Kd.R_alloc | apply Kd.R_drewN | apply Kd.R_drew)); exact HO217.out) hb); have n2_ := Aside0.mk (Kd.R_below (by (with_reducible repeat (first | apply Kd.R_alloc | apply Kd.R_drewN | apply Kd.R_drew)); exact HO220.out) hb); have n3_ := Aside0.mk (blk_below (g := gb210) (o := .cells #[.slice Ao45 t212.length co45, .slice Ao47 t215.length co47, .slice Ao48 t218.length co48] 26 (0, 0)) (by (with_reducible repeat (first | refine blk_drewN ?_ _ | refine blk_drew ?_ | refine blk_alloc ?_ _)); exact BK210.out) hb); have n4_ := Aside0.mk (below_step (by repeat (first | (with_reducible first | exact HB.out | apply below_alloc | apply pw_below_drewN | apply below_drew1 | refine below_set ?_ GE210.out) | exact HB.out)) hb); clear HO214; clear HO217; clear HO220; clear BK210; clear HB; have HO214 := n0_; have HO217 := n1_; have HO220 := n2_; have BK210 := n3_; have HB := n4_; clear n0_ n1_ n2_ n3_ n4_; (try clear hb); (try clear hb2); (try clear hk); (try clear hi)))
      go_ret
      exact ⟨by first | rfl | (simp [errW_none, errW_some] <;> rfl) | (simp [errW_none, errW_some]; exact ⟨rfl, rfl, rfl⟩) | (simp [*, errW_none, errW_some] <;> rfl), by repeat (first | (with_reducible first | exact HB.out | apply below_alloc | apply pw_below_drewN | apply below_drew1 | refine below_set ?_ GE210.out) | exact HB.out)⟩
    · replace c40 := Bool.eq_false_iff.mpr c40
      subst c40
      have H1 : (some false) = some r := by rw [if_neg (show ¬ (false = true) by decide)] at H; exact H
      clear H
      have H := H1
      clear H1
      obtain rfl := Option.some.inj H
      go_enter Try.func5, Try.ntmps5
      go_wp2_with (first | ((with_reducible refine gate_dst (N := 2) rfl ?_); (try (refine gate_guard (by rfl) ?_; dsimp only)); refine box_event ?hg (N := 2) ?hd (cs := #[.slice A0_0 l0_0.length c0_0, .slice A0_1 l0_1.length c0_1, .slice A0_2 l0_2.length c0_2]) (t := 26) ?hr ?_; (case hd => rfl); (case hg => rfl); (case hr => first | (go_simp; done) | (go_simp; rfl)); intro gb210 hg w54 hbox hb; have n0_ := Aside0.mk (below_step (by repeat (first | (with_reducible first | exact HB.out | apply below_alloc | apply pw_below_drewN | apply below_drew1) | exact HB.out)) hb); have n1_ := Aside0.mk (hbox); have n2_ := Aside0.mk ((by rw [hg]; exact (below_size (by repeat (first | (with_reducible first | exact HB.out | apply below_alloc | apply pw_below_drewN | apply below_drew1) | exact HB.out))) : w.heap.size ≤ gb210)); have n3_ := Aside0.mk ((by rw [hg]; exact (below_size (by repeat (first | (with_reducible first | exact HB.out | apply below_alloc | apply pw_below_drewN | apply below_drew1) | exact HB.out))) : w.heap.size ≤ gb210)); clear HB; have HB := n0_; have BK210 := n1_; have GW210 := n2_; have GE210 := n3_; clear n0_ n1_ n2_ n3_; clear hb hbox hg) | ((with_reducible refine gate_callee (f := 10) rfl ?_); refine goesL_ (some 9) rfl rfl Try.func10 (by kernel_rfl) rfl #[] rfl (by (try simp only [List.map_toArray, List.map_cons, List.map_nil]); first | done | rfl | (simp only [List.length_drop, List.length_take]; rfl)) ?_; (with_reducible refine (bazaarlaw06_shown.calls  false _ A3.out).mono ?_); rintro e w55 ⟨rfl, hb⟩; refine ⟨_, rfl, ?_⟩; have n0_ := Aside0.mk (blk_below (g := gb210) (o := .cells #[.slice A0_0 l0_0.length c0_0, .slice A0_1 l0_1.length c0_1, .slice A0_2 l0_2.length c0_2] 26 (0, 0)) (by (with_reducible repeat (first | refine blk_drewN ?_ _ | refine blk_drew ?_ | refine blk_alloc ?_ _)); exact BK210.out) hb); have n1_ := Aside0.mk (below_step (by repeat (first | (with_reducible first | exact HB.out | apply below_alloc | apply pw_below_drewN | apply below_drew1 | refine below_set ?_ GE210.out) | exact HB.out)) hb); clear BK210; clear HB; have BK210 := n0_; have HB := n1_; clear n0_ n1_; (try clear hb); (try clear hb2); (try clear hk); (try clear hi); have hcz56_0 : w55.cell? ⟨gb210, 0, none⟩ = some (.slice A0_0 l0_0.length c0_0) := (blk_cell BK210.out 0).trans rfl; have hcz56_1 : w55.cell? ⟨gb210, 1, none⟩ = some (.slice A0_1 l0_1.length c0_1) := (blk_cell BK210.out 1).trans rfl; have hcz56_2 : w55.cell? ⟨gb210, 2, none⟩ = some (.slice A0_2 l0_2.length c0_2) := (blk_cell BK210.out 2).trans rfl; have hfz56_0 := blk_frozen BK210.out 0; have hfz56_1 := blk_frozen BK210.out 1; have hfz56_2 := blk_frozen BK210.out 2) | ((with_reducible refine gate_callee (f := 11) rfl ?_); refine goesL_ (some 11) rfl rfl Try.func11 (by kernel_rfl) rfl #[.agg #[.slice A0_0 l0_0.length c0_0, .slice A0_1 l0_1.length c0_1, .slice A0_2 l0_2.length c0_2]] rfl (by (try simp only [List.map_toArray, List.map_cons, List.map_nil]); first | done | rfl | (simp only [List.length_drop, List.length_take]; rfl)) ?_; (with_reducible refine (bazaarlaw06_cut.calls k _ _ l0_0 _ _ l0_1 _ _ l0_2 t212 t215 t218 _ ?side1 ?side2 ?side3 ?side4 ?side5 ?side6 A4.out).mono ?_); (case side1 => repeat (first | exact (Kd.C_below HR0_0.out HB.out) | (with_reducible refine Kd.C_alloc ?_ _) | (with_reducible refine Kd.C_drewN ?_ _) | (with_reducible refine Kd.C_drew ?_))); (case side2 => exact HC0_0.out); (case side3 => repeat (first | exact (Kd.C_below HR0_1.out HB.out) | (with_reducible refine Kd.C_alloc ?_ _) | (with_reducible refine Kd.C_drewN ?_ _) | (with_reducible refine Kd.C_drew ?_))); (case side4 => exact HC0_1.out); (case side5 => repeat (first | exact (Kd.C_below HR0_2.out HB.out) | (with_reducible refine Kd.C_alloc ?_ _) | (with_reducible refine Kd.C_drewN ?_ _) | (with_reducible refine Kd.C_drew ?_))); (case side6 => exact HC0_2.out); rintro e w57 ⟨v213, v216, v219, rfl, ho0, ho1, ho2, hb⟩; refine ⟨_, rfl, ?_⟩; have n0_ := Aside0.mk (Kd.R_lower ho0 (below_size (by repeat (first | (with_reducible first | exact HB.out | apply below_alloc | apply pw_below_drewN | apply below_drew1 | refine below_set ?_ GE210.out) | exact HB.out)))); have n1_ := Aside0.mk (Kd.R_lower ho1 (below_size (by repeat (first | (with_reducible first | exact HB.out | apply below_alloc | apply pw_below_drewN | apply below_drew1 | refine below_set ?_ GE210.out) | exact HB.out)))); have n2_ := Aside0.mk (Kd.R_lower ho2 (below_size (by repeat (first | (with_reducible first | exact HB.out | apply below_alloc | apply pw_below_drewN | apply below_drew1 | refine below_set ?_ GE210.out) | exact HB.out)))); have n3_ := Aside0.mk (blk_below (g := gb210) (o := .cells #[.slice A0_0 l0_0.length c0_0, .slice A0_1 l0_1.length c0_1, .slice A0_2 l0_2.length c0_2] 26 (0, 0)) (by (with_reducible repeat (first | refine blk_drewN ?_ _ | refine blk_drew ?_ | refine blk_alloc ?_ _)); exact BK210.out) hb); have n4_ := Aside0.mk (below_step (by repeat (first | (with_reducible first | exact HB.out | apply below_alloc | apply pw_below_drewN | apply below_drew1 | refine below_set ?_ GE210.out) | exact HB.out)) hb); clear BK210; clear HB; have HO214 := n0_; have HO217 := n1_; have HO220 := n2_; have BK210 := n3_; have HB := n4_; clear n0_ n1_ n2_ n3_ n4_; (try clear hb); (try clear hb2); (try clear hk); (try clear hi); (try clear ho0); (try clear ho1); (try clear ho2); obtain ⟨Ao58, co58, eo58⟩ := Kd.R_slice HO214.out; subst eo58; have hcz59_0 : w57.cell? ⟨gb210, 0, none⟩ = some (.slice A0_0 l0_0.length c0_0) := (blk_cell BK210.out 0).trans rfl; have hcz59_1 : w57.cell? ⟨gb210, 1, none⟩ = some (.slice A0_1 l0_1.length c0_1) := (blk_cell BK210.out 1).trans rfl; have hcz59_2 : w57.cell? ⟨gb210, 2, none⟩ = some (.slice A0_2 l0_2.length c0_2) := (blk_cell BK210.out 2).trans rfl; have hfz59_0 := blk_frozen BK210.out 0; have hfz59_1 := blk_frozen BK210.out 1; have hfz59_2 := blk_frozen BK210.out 2; obtain ⟨Ao60, co60, eo60⟩ := Kd.R_slice HO217.out; subst eo60; obtain ⟨Ao61, co61, eo61⟩ := Kd.R_slice HO220.out; subst eo61) | ((with_reducible refine gate_callee (f := 19) rfl ?_); refine goesL_ (some 13) rfl rfl Try.func19 (by kernel_rfl) rfl #[.string a1] rfl (by (try simp only [List.map_toArray, List.map_cons, List.map_nil]); first | done | rfl | (simp only [List.length_drop, List.length_take]; rfl)) ?_; (with_reducible refine (bazaarlaw06_text.calls a1 t221 _ A5.out).mono ?_); rintro e w62 ⟨rfl, hb⟩; refine ⟨_, rfl, ?_⟩; have n0_ := Aside0.mk (Kd.R_below (by (with_reducible repeat (first | apply Kd.R_alloc | apply Kd.R_drewN | apply Kd.R_drew)); exact (Kd.R_mono (Kd.R_far (p := ⟨gb210, 2, none⟩) (Kd.R_far (p := ⟨gb210, 1, none⟩) (Kd.R_far (p := ⟨gb210, 0, none⟩) (Kd.R_types HO214.out BK210.out (by decide)) (fun _ hk => hk.2) (.slice Ao58 t212.length co58)) (fun _ hk => hk.2) (.slice Ao60 t215.length co60)) (fun _ hk => hk.2) (.slice Ao61 t218.length co61)) (fun _ h_ => h_.1))) hb); have n1_ := Aside0.mk (Kd.R_below (by (with_reducible repeat (first | apply Kd.R_alloc | apply Kd.R_drewN | apply Kd.R_drew)); exact (Kd.R_mono (Kd.R_far (p := ⟨gb210, 2, none⟩) (Kd.R_far (p := ⟨gb210, 1, none⟩) (Kd.R_far (p := ⟨gb210, 0, none⟩) (Kd.R_types HO217.out BK210.out (by decide)) (fun _ hk => hk.2) (.slice Ao58 t212.length co58)) (fun _ hk => hk.2) (.slice Ao60 t215.length co60)) (fun _ hk => hk.2) (.slice Ao61 t218.length co61)) (fun _ h_ => h_.1))) hb); have n2_ := Aside0.mk (Kd.R_below (by (with_reducible repeat (first | apply Kd.R_alloc | apply Kd.R_drewN | apply Kd.R_drew)); exact (Kd.R_mono (Kd.R_far (p := ⟨gb210, 2, none⟩) (Kd.R_far (p := ⟨gb210, 1, none⟩) (Kd.R_far (p := ⟨gb210, 0, none⟩) (Kd.R_types HO220.out BK210.out (by decide)) (fun _ hk => hk.2) (.slice Ao58 t212.length co58)) (fun _ hk => hk.2) (.slice Ao60 t215.length co60)) (fun _ hk => hk.2) (.slice Ao61 t218.length co61)) (fun _ h_ => h_.1))) hb); have n3_ := Aside0.mk (blk_below (g := gb210) (o := .cells #[.slice Ao58 t212.length co58, .slice Ao60 t215.length co60, .slice Ao61 t218.length co61] 26 (0, 0)) (by (with_reducible repeat (first | refine blk_drewN ?_ _ | refine blk_drew ?_ | refine blk_alloc ?_ _)); refine blk_put (cs := #[.slice Ao58 t212.length co58, .slice Ao60 t215.length co60, .slice A0_2 l0_2.length c0_2]) ?_ 2 _ rfl; (with_reducible repeat (first | refine blk_drewN ?_ _ | refine blk_drew ?_ | refine blk_alloc ?_ _)); refine blk_put (cs := #[.slice Ao58 t212.length co58, .slice A0_1 l0_1.length c0_1, .slice A0_2 l0_2.length c0_2]) ?_ 1 _ rfl; (with_reducible repeat (first | refine blk_drewN ?_ _ | refine blk_drew ?_ | refine blk_alloc ?_ _)); refine blk_put (cs := #[.slice A0_0 l0_0.length c0_0, .slice A0_1 l0_1.length c0_1, .slice A0_2 l0_2.length c0_2]) ?_ 0 _ rfl; (with_reducible repeat (first | refine blk_drewN ?_ _ | refine blk_drew ?_ | refine blk_alloc ?_ _)); exact BK210.out) hb); have n4_ := Aside0.mk (below_step (by repeat (first | (with_reducible first | exact HB.out | apply below_alloc | apply pw_below_drewN | apply below_drew1 | refine below_set ?_ GE210.out) | exact HB.out)) hb); clear HO214; clear HO217; clear HO220; clear BK210; clear HB; have HO214 := n0_; have HO217 := n1_; have HO220 := n2_; have BK210 := n3_; have HB := n4_; clear n0_ n1_ n2_ n3_ n4_; (try clear hb); (try clear hb2); (try clear hk); (try clear hi); have hcz63_0 : w62.cell? ⟨gb210, 0, none⟩ = some (.slice Ao58 t212.length co58) := (blk_cell BK210.out 0).trans rfl; have hcz63_1 : w62.cell? ⟨gb210, 1, none⟩ = some (.slice Ao60 t215.length co60) := (blk_cell BK210.out 1).trans rfl; have hcz63_2 : w62.cell? ⟨gb210, 2, none⟩ = some (.slice Ao61 t218.length co61) := (blk_cell BK210.out 2).trans rfl; have hfz63_0 := blk_frozen BK210.out 0; have hfz63_1 := blk_frozen BK210.out 1; have hfz63_2 := blk_frozen BK210.out 2) | ((with_reducible refine gate_callee (f := 18) rfl ?_); refine goesL_ (some 16) rfl rfl Try.func18 (by kernel_rfl) rfl #[.agg #[.slice Ao58 t212.length co58, .slice Ao60 t215.length co60, .slice Ao61 t218.length co61], .string t221] rfl (by (try simp only [List.map_toArray, List.map_cons, List.map_nil]); first | done | rfl | (simp only [List.length_drop, List.length_take]; rfl)) ?_; (with_reducible refine (node_Place.calls k _ _ t212 _ _ t215 _ _ t218 t221 t222 _ ?side1 ?side2 ?side3 ?side4 ?side5 ?side6 A6.out).mono ?_); (case side1 => repeat (first | exact (Kd.R_reads' HO214.out).2.2 | (with_reducible refine Kd.C_alloc ?_ _) | (with_reducible refine Kd.C_drewN ?_ _) | (with_reducible refine Kd.C_drew ?_))); (case side2 => exact (Kd.R_reads' HO214.out).2.1); (case side3 => repeat (first | exact (Kd.R_reads' HO217.out).2.2 | (with_reducible refine Kd.C_alloc ?_ _) | (with_reducible refine Kd.C_drewN ?_ _) | (with_reducible refine Kd.C_drew ?_))); (case side4 => exact (Kd.R_reads' HO217.out).2.1); (case side5 => repeat (first | exact (Kd.R_reads' HO220.out).2.2 | (with_reducible refine Kd.C_alloc ?_ _) | (with_reducible refine Kd.C_drewN ?_ _) | (with_reducible refine Kd.C_drew ?_))); (case side6 => exact (Kd.R_reads' HO220.out).2.1); rintro e w64 ⟨rfl, hb⟩; refine ⟨_, rfl, ?_⟩; have n0_ := Aside0.mk (Kd.R_below (by (with_reducible repeat (first | apply Kd.R_alloc | apply Kd.R_drewN | apply Kd.R_drew)); exact HO214.out) hb); have n1_ := Aside0.mk (Kd.R_below (by (with_reducible repeat (first | apply Kd.R_alloc | apply Kd.R_drewN | apply Kd.R_drew)); exact HO217.out) hb); have n2_ := Aside0.mk (Kd.R_below (by (with_reducible repeat (first | apply Kd.R_alloc | apply Kd.R_drewN | apply Kd.R_drew)); exact HO220.out) hb); have n3_ := Aside0.mk (blk_below (g := gb210) (o := .cells #[.slice Ao58 t212.length co58, .slice Ao60 t215.length co60, .slice Ao61 t218.length co61] 26 (0, 0)) (by (with_reducible repeat (first | refine blk_drewN ?_ _ | refine blk_drew ?_ | refine blk_alloc ?_ _)); exact BK210.out) hb); have n4_ := Aside0.mk (below_step (by repeat (first | (with_reducible first | exact HB.out | apply below_alloc | apply pw_below_drewN | apply below_drew1 | refine below_set ?_ GE210.out) | exact HB.out)) hb); clear HO214; clear HO217; clear HO220; clear BK210; clear HB; have HO214 := n0_; have HO217 := n1_; have HO220 := n2_; have BK210 := n3_; have HB := n4_; clear n0_ n1_ n2_ n3_ n4_; (try clear hb); (try clear hb2); (try clear hk); (try clear hi); have hcz65_0 : w64.cell? ⟨gb210, 0, none⟩ = some (.slice Ao58 t212.length co58) := (blk_cell BK210.out 0).trans rfl; have hcz65_1 : w64.cell? ⟨gb210, 1, none⟩ = some (.slice Ao60 t215.length co60) := (blk_cell BK210.out 1).trans rfl; have hcz65_2 : w64.cell? ⟨gb210, 2, none⟩ = some (.slice Ao61 t218.length co61) := (blk_cell BK210.out 2).trans rfl; have hfz65_0 := blk_frozen BK210.out 0; have hfz65_1 := blk_frozen BK210.out 1; have hfz65_2 := blk_frozen BK210.out 2) | ((with_reducible refine gate_callee (f := 14) rfl ?_); refine goesL_ (some 18) rfl rfl Try.func14 (by kernel_rfl) rfl #[.agg #[.slice Ao58 t212.length co58, .slice Ao60 t215.length co60, .slice Ao61 t218.length co61]] rfl (by (try simp only [List.map_toArray, List.map_cons, List.map_nil]); first | done | rfl | (simp only [List.length_drop, List.length_take]; rfl)) ?_; (with_reducible refine (node_Right.calls k _ _ t212 _ _ t215 _ _ t218 false _ ?side1 ?side2 ?side3 ?side4 ?side5 ?side6 A7.out).mono ?_); (case side1 => repeat (first | exact (Kd.R_reads' HO214.out).2.2 | (with_reducible refine Kd.C_alloc ?_ _) | (with_reducible refine Kd.C_drewN ?_ _) | (with_reducible refine Kd.C_drew ?_))); (case side2 => exact (Kd.R_reads' HO214.out).2.1); (case side3 => repeat (first | exact (Kd.R_reads' HO217.out).2.2 | (with_reducible refine Kd.C_alloc ?_ _) | (with_reducible refine Kd.C_drewN ?_ _) | (with_reducible refine Kd.C_drew ?_))); (case side4 => exact (Kd.R_reads' HO217.out).2.1); (case side5 => repeat (first | exact (Kd.R_reads' HO220.out).2.2 | (with_reducible refine Kd.C_alloc ?_ _) | (with_reducible refine Kd.C_drewN ?_ _) | (with_reducible refine Kd.C_drew ?_))); (case side6 => exact (Kd.R_reads' HO220.out).2.1); rintro e w66 ⟨rfl, hb⟩; refine ⟨_, rfl, ?_⟩; have n0_ := Aside0.mk (Kd.R_below (by (with_reducible repeat (first | apply Kd.R_alloc | apply Kd.R_drewN | apply Kd.R_drew)); exact HO214.out) hb); have n1_ := Aside0.mk (Kd.R_below (by (with_reducible repeat (first | apply Kd.R_alloc | apply Kd.R_drewN | apply Kd.R_drew)); exact HO217.out) hb); have n2_ := Aside0.mk (Kd.R_below (by (with_reducible repeat (first | apply Kd.R_alloc | apply Kd.R_drewN | apply Kd.R_drew)); exact HO220.out) hb); have n3_ := Aside0.mk (blk_below (g := gb210) (o := .cells #[.slice Ao58 t212.length co58, .slice Ao60 t215.length co60, .slice Ao61 t218.length co61] 26 (0, 0)) (by (with_reducible repeat (first | refine blk_drewN ?_ _ | refine blk_drew ?_ | refine blk_alloc ?_ _)); exact BK210.out) hb); have n4_ := Aside0.mk (below_step (by repeat (first | (with_reducible first | exact HB.out | apply below_alloc | apply pw_below_drewN | apply below_drew1 | refine below_set ?_ GE210.out) | exact HB.out)) hb); clear HO214; clear HO217; clear HO220; clear BK210; clear HB; have HO214 := n0_; have HO217 := n1_; have HO220 := n2_; have BK210 := n3_; have HB := n4_; clear n0_ n1_ n2_ n3_ n4_; (try clear hb); (try clear hb2); (try clear hk); (try clear hi)))
      go_ret
      exact ⟨by first | rfl | (simp [errW_none, errW_some] <;> rfl) | (simp [errW_none, errW_some]; exact ⟨rfl, rfl, rfl⟩) | (simp [*, errW_none, errW_some] <;> rfl), by repeat (first | (with_reducible first | exact HB.out | apply below_alloc | apply pw_below_drewN | apply below_drew1 | refine below_set ?_ GE210.out) | exact HB.out)⟩

end Go.Proofs.Ytejempihaknplaa.G
