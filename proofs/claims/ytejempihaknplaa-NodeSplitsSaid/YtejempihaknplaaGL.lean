-- Written by this session's program genprint.py (the kit's print.py with contracts of this seat's own among the callees). Not trusted: Lean checks it.
import Derived.Test.YtejempihaknplaaGX
import Derived.Test.YtejempihaknplaaNdW
import Derived.Test.YtejempihaknplaaGA
import Derived.Test.YtejempihaknplaaHEncode
import Derived.Test.YtejempihaknplaaHPut
namespace Go.Proofs.Ytejempihaknplaa.G
open Go.RowKit Go.Proofs.YtejempihaknplaaW.PrintWords Go.Proofs.YtejempihaknplaaW.PrintLast Go.Proofs.YtejempihaknplaaW.PrintMore
attribute [local go_sem] max2_int min2_int max_two min_two max_three min_three max_four min_four   -- for this text's walks alone
set_option linter.unusedVariables false
set_option linter.unusedSimpArgs false

/-! ### bazaarlaw06_shown: function 10 -/
def bazaarlaw06_shown.f  : Option (Bool) := (node_Put.f ([] : List (S39)) ([] : List ByteArray) ([] : List Int) (⟨#[97]⟩ : ByteArray) (⟨#[120, 121]⟩ : ByteArray)).bind fun bt144 => ((node_Encode.f bt144.1 bt144.2.1 bt144.2.2.1).bind fun bt155 => ((node_Decode.f 9 (⟨#[]⟩ : ByteArray)).bind fun bt158 => (if bt144.2.2.2 = 0 then (if bt155.2.2 = 0 then (if bt158.2.2.2 = 60 then (if bt155.1 = 1 then (some (bt155.2.1.toList == ([1, 1, 97, 2, 120, 121] : List UInt8))) else (some false)) else (some false)) else (some false)) else (some false))))
set_option maxHeartbeats 8000000 in
set_option maxRecDepth 100000 in
theorem bazaarlaw06_shown.calls  (r : Bool) (w : World) (h : bazaarlaw06_shown.f  = some r) (hr_ : r = true) :
    Calls Try.prog 10 #[] w fun e w' => e = .returned (.bool r) ∧ Below w.heap.size w w' := by
  have hu26 := Try.underlying26
  have hu39 := Try.underlying39
  have HB := Aside0.mk (Below.refl w.heap.size w)
  have H : ((node_Put.f ([] : List (S39)) ([] : List ByteArray) ([] : List Int) (⟨#[97]⟩ : ByteArray) (⟨#[120, 121]⟩ : ByteArray)).bind fun bt144 => ((node_Encode.f bt144.1 bt144.2.1 bt144.2.2.1).bind fun bt155 => ((node_Decode.f 9 (⟨#[]⟩ : ByteArray)).bind fun bt158 => (if bt144.2.2.2 = 0 then (if bt155.2.2 = 0 then (if bt158.2.2.2 = 60 then (if bt155.1 = 1 then (some (bt155.2.1.toList == ([1, 1, 97, 2, 120, 121] : List UInt8))) else (some false)) else (some false)) else (some false)) else (some false))))) = some r := h
  clear h
  replace H := Option.bind_eq_some_iff.mp H
  obtain ⟨⟨t144, t147, t150, t153⟩, A10, H⟩ := H
  replace H : ((node_Encode.f t144 t147 t150).bind fun bt155 => ((node_Decode.f 9 (⟨#[]⟩ : ByteArray)).bind fun bt158 => (if t153 = 0 then (if bt155.2.2 = 0 then (if bt158.2.2.2 = 60 then (if bt155.1 = 1 then (some (bt155.2.1.toList == ([1, 1, 97, 2, 120, 121] : List UInt8))) else (some false)) else (some false)) else (some false)) else (some false)))) = some r := H
  have A1 := Aside0.mk A10
  clear A10
  replace H := Option.bind_eq_some_iff.mp H
  obtain ⟨⟨t155, t156, t157⟩, A20, H⟩ := H
  replace H : ((node_Decode.f 9 (⟨#[]⟩ : ByteArray)).bind fun bt158 => (if t153 = 0 then (if t157 = 0 then (if bt158.2.2.2 = 60 then (if t155 = 1 then (some (t156.toList == ([1, 1, 97, 2, 120, 121] : List UInt8))) else (some false)) else (some false)) else (some false)) else (some false))) = some r := H
  have A2 := Aside0.mk A20
  clear A20
  replace H := Option.bind_eq_some_iff.mp H
  obtain ⟨⟨t158, t161, t164, t167⟩, A30, H⟩ := H
  replace H : (if t153 = 0 then (if t157 = 0 then (if t167 = 60 then (if t155 = 1 then (some (t156.toList == ([1, 1, 97, 2, 120, 121] : List UInt8))) else (some false)) else (some false)) else (some false)) else (some false)) = some r := H
  have A3 := Aside0.mk A30
  clear A30
  by_cases c4 : t153 = 0
  rotate_left
  · rw [if_neg c4] at H
    have c4b0 : (t153 == 0) = false := beq_eq_false_iff_ne.mpr c4
    have c4b1 : (t153 != 0) = true := bne_iff_ne.mpr c4
    obtain rfl := Option.some.inj H
    cases hr_
  rw [if_pos c4] at H
  have c4b0 : (t153 == 0) = true := beq_iff_eq.mpr c4
  have c4b1 : (t153 != 0) = false := bne_eq_false_iff_eq.mpr c4
  clear c4
  by_cases c5 : t157 = 0
  rotate_left
  · rw [if_neg c5] at H
    have c5b0 : (t157 == 0) = false := beq_eq_false_iff_ne.mpr c5
    have c5b1 : (t157 != 0) = true := bne_iff_ne.mpr c5
    obtain rfl := Option.some.inj H
    cases hr_
  rw [if_pos c5] at H
  have c5b0 : (t157 == 0) = true := beq_iff_eq.mpr c5
  have c5b1 : (t157 != 0) = false := bne_eq_false_iff_eq.mpr c5
  clear c5
  by_cases c6 : t167 = 60
  rotate_left
  · rw [if_neg c6] at H
    have c6b0 : (t167 == 60) = false := beq_eq_false_iff_ne.mpr c6
    have c6b1 : (t167 != 60) = true := bne_iff_ne.mpr c6
    obtain rfl := Option.some.inj H
    cases hr_
  rw [if_pos c6] at H
  have c6b0 : (t167 == 60) = true := beq_iff_eq.mpr c6
  have c6b1 : (t167 != 60) = false := bne_eq_false_iff_eq.mpr c6
  clear c6
  by_cases c7 : t155 = 1
  rotate_left
  · rw [if_neg c7] at H
    have c7b0 : (t155 == 1) = false := beq_eq_false_iff_ne.mpr c7
    have c7b1 : (t155 != 1) = true := bne_iff_ne.mpr c7
    obtain rfl := Option.some.inj H
    cases hr_
  rw [if_pos c7] at H
  have c7b0 : (t155 == 1) = true := beq_iff_eq.mpr c7
  have c7b1 : (t155 != 1) = false := bne_eq_false_iff_eq.mpr c7
  clear c7
  obtain rfl := Option.some.inj H
  go_enter Try.func10, Try.ntmps10
  go_wp2_with (first | ((with_reducible refine gate_callee (f := 22) rfl ?_); refine goesL_ (some 11) rfl rfl Try.func22 (by kernel_rfl) rfl #[.agg #[.slice none 0 0, .slice none 0 0, .slice none 0 0], .agg #[.string (⟨#[97]⟩ : ByteArray), .string (⟨#[120, 121]⟩ : ByteArray)]] rfl (by (try simp only [List.map_toArray, List.map_cons, List.map_nil]); first | done | rfl | (simp only [List.length_drop, List.length_take]; rfl)) ?_; (refine (node_Put.calls _ _ ([] : List (S39)) _ _ ([] : List ByteArray) _ _ ([] : List Int) (⟨#[97]⟩ : ByteArray) (⟨#[120, 121]⟩ : ByteArray) t144 t147 t150 t153 _ ?side1 ?side2 ?side3 ?side4 ?side5 ?side6 A1.out).mono ?_); (case side1 => exact Kd.C_nil _ _); (case side2 => exact Nat.le_refl _); (case side3 => exact Kd.C_nil _ _); (case side4 => exact Nat.le_refl _); (case side5 => exact Kd.C_nil _ _); (case side6 => exact Nat.le_refl _); rintro e w8 ⟨v145, v148, v151, rfl, ho0, ho1, ho2, hb⟩; refine ⟨_, rfl, ?_⟩; have HO146 := Aside0.mk (Kd.R_lower ho0 (below_size (by repeat (first | (with_reducible first | exact HB.out | apply below_alloc | apply pw_below_drewN | apply below_drew1) | exact HB.out)))); have HO149 := Aside0.mk (Kd.R_lower ho1 (below_size (by repeat (first | (with_reducible first | exact HB.out | apply below_alloc | apply pw_below_drewN | apply below_drew1) | exact HB.out)))); have HO152 := Aside0.mk (Kd.R_lower ho2 (below_size (by repeat (first | (with_reducible first | exact HB.out | apply below_alloc | apply pw_below_drewN | apply below_drew1) | exact HB.out)))); replace HB := Aside0.mk (below_step (by repeat (first | (with_reducible first | exact HB.out | apply below_alloc | apply pw_below_drewN | apply below_drew1) | exact HB.out)) hb); (try clear hb); (try clear hb2); (try clear hk); (try clear hi); (try clear ho0); (try clear ho1); (try clear ho2)) | ((with_reducible refine gate_dst (N := 1) rfl ?_); refine box_event ?hg (N := 1) ?hd (cs := #[.slice none 0 0, .slice none 0 0, .slice none 0 0]) (t := 26) ?hr ?_; (case hd => rfl); (case hg => rfl); (case hr => first | (go_simp; done) | (go_simp; rfl)); intro gb154 hg w9 hbox hb; have BK154 := Aside0.mk (hbox); have GW154 := Aside0.mk ((by rw [hg]; exact (below_size (by repeat (first | (with_reducible first | exact HB.out | apply below_alloc | apply pw_below_drewN | apply below_drew1) | exact HB.out))) : w.heap.size ≤ gb154)); have GE154 := Aside0.mk ((by rw [hg]; exact (below_size (by repeat (first | (with_reducible first | exact HB.out | apply below_alloc | apply pw_below_drewN | apply below_drew1) | exact HB.out))) : w.heap.size ≤ gb154)); replace HO146 := Aside0.mk (Kd.R_below (by (with_reducible repeat (first | apply Kd.R_alloc | apply Kd.R_drewN | apply Kd.R_drew)); exact HO146.out) hb); replace HO149 := Aside0.mk (Kd.R_below (by (with_reducible repeat (first | apply Kd.R_alloc | apply Kd.R_drewN | apply Kd.R_drew)); exact HO149.out) hb); replace HO152 := Aside0.mk (Kd.R_below (by (with_reducible repeat (first | apply Kd.R_alloc | apply Kd.R_drewN | apply Kd.R_drew)); exact HO152.out) hb); replace HB := Aside0.mk (below_step (by repeat (first | (with_reducible first | exact HB.out | apply below_alloc | apply pw_below_drewN | apply below_drew1) | exact HB.out)) hb); clear hb hbox hg; obtain ⟨Ao10, co10, eo10⟩ := Kd.R_slice HO146.out; subst eo10; have hcz11_0 : w9.cell? ⟨gb154, 0, none⟩ = some (.slice none 0 0) := (blk_cell BK154.out 0).trans rfl; have hcz11_1 : w9.cell? ⟨gb154, 1, none⟩ = some (.slice none 0 0) := (blk_cell BK154.out 1).trans rfl; have hcz11_2 : w9.cell? ⟨gb154, 2, none⟩ = some (.slice none 0 0) := (blk_cell BK154.out 2).trans rfl; have hfz11_0 := blk_frozen BK154.out 0; have hfz11_1 := blk_frozen BK154.out 1; have hfz11_2 := blk_frozen BK154.out 2; obtain ⟨Ao12, co12, eo12⟩ := Kd.R_slice HO149.out; subst eo12; obtain ⟨Ao13, co13, eo13⟩ := Kd.R_slice HO152.out; subst eo13) | ((with_reducible refine gate_callee (f := 12) rfl ?_); refine goesL_ (some 16) rfl rfl Try.func12 (by kernel_rfl) rfl #[.agg #[.slice Ao10 t144.length co10, .slice Ao12 t147.length co12, .slice Ao13 t150.length co13]] rfl (by (try simp only [List.map_toArray, List.map_cons, List.map_nil]); first | done | rfl | (simp only [List.length_drop, List.length_take]; rfl)) ?_; (with_reducible refine (node_Encode.calls _ _ t144 _ _ t147 _ _ t150 t155 t156 t157 _ ?side1 ?side2 ?side3 ?side4 ?side5 ?side6 A2.out).mono ?_); (case side1 => refine (Kd.R_reads' (e := 39) (base := w.heap.size) (ok := fun k_ => True) (n := t144.length) (c := co10) ?_).2.2; exact (by (with_reducible repeat (first | apply Kd.R_alloc | apply Kd.R_drewN | apply Kd.R_drew)); exact (Kd.R_mono (Kd.R_far (p := ⟨gb154, 2, none⟩) (Kd.R_far (p := ⟨gb154, 1, none⟩) (Kd.R_far (p := ⟨gb154, 0, none⟩) (Kd.R_types HO146.out BK154.out (by decide)) (fun _ hk => hk.2) (.slice Ao10 t144.length co10)) (fun _ hk => hk.2) (.slice Ao12 t147.length co12)) (fun _ hk => hk.2) (.slice Ao13 t150.length co13)) (fun _ h_ => h_.1)))); (case side2 => exact (Kd.R_reads' HO146.out).2.1); (case side3 => refine (Kd.R_reads' (e := 9) (base := w.heap.size) (ok := fun k_ => True) (n := t147.length) (c := co12) ?_).2.2; exact (by (with_reducible repeat (first | apply Kd.R_alloc | apply Kd.R_drewN | apply Kd.R_drew)); exact (Kd.R_mono (Kd.R_far (p := ⟨gb154, 2, none⟩) (Kd.R_far (p := ⟨gb154, 1, none⟩) (Kd.R_far (p := ⟨gb154, 0, none⟩) (Kd.R_types HO149.out BK154.out (by decide)) (fun _ hk => hk.2) (.slice Ao10 t144.length co10)) (fun _ hk => hk.2) (.slice Ao12 t147.length co12)) (fun _ hk => hk.2) (.slice Ao13 t150.length co13)) (fun _ h_ => h_.1)))); (case side4 => exact (Kd.R_reads' HO149.out).2.1); (case side5 => refine (Kd.R_reads' (e := 65) (base := w.heap.size) (ok := fun k_ => True) (n := t150.length) (c := co13) ?_).2.2; exact (by (with_reducible repeat (first | apply Kd.R_alloc | apply Kd.R_drewN | apply Kd.R_drew)); exact (Kd.R_mono (Kd.R_far (p := ⟨gb154, 2, none⟩) (Kd.R_far (p := ⟨gb154, 1, none⟩) (Kd.R_far (p := ⟨gb154, 0, none⟩) (Kd.R_types HO152.out BK154.out (by decide)) (fun _ hk => hk.2) (.slice Ao10 t144.length co10)) (fun _ hk => hk.2) (.slice Ao12 t147.length co12)) (fun _ hk => hk.2) (.slice Ao13 t150.length co13)) (fun _ h_ => h_.1)))); (case side6 => exact (Kd.R_reads' HO152.out).2.1); rintro e w14 ⟨rfl, hb⟩; refine ⟨_, rfl, ?_⟩; replace HO146 := Aside0.mk (Kd.R_below (by (with_reducible repeat (first | apply Kd.R_alloc | apply Kd.R_drewN | apply Kd.R_drew)); exact (Kd.R_mono (Kd.R_far (p := ⟨gb154, 2, none⟩) (Kd.R_far (p := ⟨gb154, 1, none⟩) (Kd.R_far (p := ⟨gb154, 0, none⟩) (Kd.R_types HO146.out BK154.out (by decide)) (fun _ hk => hk.2) (.slice Ao10 t144.length co10)) (fun _ hk => hk.2) (.slice Ao12 t147.length co12)) (fun _ hk => hk.2) (.slice Ao13 t150.length co13)) (fun _ h_ => h_.1))) hb); replace HO149 := Aside0.mk (Kd.R_below (by (with_reducible repeat (first | apply Kd.R_alloc | apply Kd.R_drewN | apply Kd.R_drew)); exact (Kd.R_mono (Kd.R_far (p := ⟨gb154, 2, none⟩) (Kd.R_far (p := ⟨gb154, 1, none⟩) (Kd.R_far (p := ⟨gb154, 0, none⟩) (Kd.R_types HO149.out BK154.out (by decide)) (fun _ hk => hk.2) (.slice Ao10 t144.length co10)) (fun _ hk => hk.2) (.slice Ao12 t147.length co12)) (fun _ hk => hk.2) (.slice Ao13 t150.length co13)) (fun _ h_ => h_.1))) hb); replace HO152 := Aside0.mk (Kd.R_below (by (with_reducible repeat (first | apply Kd.R_alloc | apply Kd.R_drewN | apply Kd.R_drew)); exact (Kd.R_mono (Kd.R_far (p := ⟨gb154, 2, none⟩) (Kd.R_far (p := ⟨gb154, 1, none⟩) (Kd.R_far (p := ⟨gb154, 0, none⟩) (Kd.R_types HO152.out BK154.out (by decide)) (fun _ hk => hk.2) (.slice Ao10 t144.length co10)) (fun _ hk => hk.2) (.slice Ao12 t147.length co12)) (fun _ hk => hk.2) (.slice Ao13 t150.length co13)) (fun _ h_ => h_.1))) hb); replace BK154 := Aside0.mk (blk_below (g := gb154) (o := .cells #[.slice Ao10 t144.length co10, .slice Ao12 t147.length co12, .slice Ao13 t150.length co13] 26 (0, 0)) (by (with_reducible repeat (first | refine blk_drewN ?_ _ | refine blk_drew ?_ | refine blk_alloc ?_ _)); refine blk_put (cs := #[.slice Ao10 t144.length co10, .slice Ao12 t147.length co12, .slice none 0 0]) ?_ 2 _ rfl; (with_reducible repeat (first | refine blk_drewN ?_ _ | refine blk_drew ?_ | refine blk_alloc ?_ _)); refine blk_put (cs := #[.slice Ao10 t144.length co10, .slice none 0 0, .slice none 0 0]) ?_ 1 _ rfl; (with_reducible repeat (first | refine blk_drewN ?_ _ | refine blk_drew ?_ | refine blk_alloc ?_ _)); refine blk_put (cs := #[.slice none 0 0, .slice none 0 0, .slice none 0 0]) ?_ 0 _ rfl; (with_reducible repeat (first | refine blk_drewN ?_ _ | refine blk_drew ?_ | refine blk_alloc ?_ _)); exact BK154.out) hb); replace HB := Aside0.mk (below_step (by repeat (first | (with_reducible first | exact HB.out | apply below_alloc | apply pw_below_drewN | apply below_drew1 | refine below_set ?_ GE154.out) | exact HB.out)) hb); (try clear hb); (try clear hb2); (try clear hk); (try clear hi)) | ((with_reducible refine gate_callee (f := 31) rfl ?_); refine goesL_ (some 21) rfl rfl Try.func31 (by kernel_rfl) rfl #[.int .i64 9, .string (⟨#[]⟩ : ByteArray)] rfl (by (try simp only [List.map_toArray, List.map_cons, List.map_nil]); first | done | rfl | (simp only [List.length_drop, List.length_take]; rfl)) ?_; (with_reducible refine (node_Decode.calls 9 (⟨#[]⟩ : ByteArray) t158 t161 t164 t167 _ A3.out).mono ?_); rintro e w15 ⟨v159, v162, v165, rfl, ho0, ho1, ho2, hb⟩; refine ⟨_, rfl, ?_⟩; have HO160 := Aside0.mk (Kd.R_lower (Kd.R_new' ho0 (Kd.R_lt (by (with_reducible repeat (first | apply Kd.R_alloc | apply Kd.R_drewN | apply Kd.R_drew)); exact HO146.out))) (below_size (by repeat (first | (with_reducible first | exact HB.out | apply below_alloc | apply pw_below_drewN | apply below_drew1 | refine below_set ?_ GE154.out) | exact HB.out)))); have HO163 := Aside0.mk (Kd.R_lower (Kd.R_new' ho1 (Kd.R_lt (by (with_reducible repeat (first | apply Kd.R_alloc | apply Kd.R_drewN | apply Kd.R_drew)); exact HO149.out))) (below_size (by repeat (first | (with_reducible first | exact HB.out | apply below_alloc | apply pw_below_drewN | apply below_drew1 | refine below_set ?_ GE154.out) | exact HB.out)))); have HO166 := Aside0.mk (Kd.R_lower (Kd.R_new' ho2 (Kd.R_lt (by (with_reducible repeat (first | apply Kd.R_alloc | apply Kd.R_drewN | apply Kd.R_drew)); exact HO152.out))) (below_size (by repeat (first | (with_reducible first | exact HB.out | apply below_alloc | apply pw_below_drewN | apply below_drew1 | refine below_set ?_ GE154.out) | exact HB.out)))); replace HO146 := Aside0.mk (Kd.R_elder' (by (with_reducible repeat (first | apply Kd.R_alloc | apply Kd.R_drewN | apply Kd.R_drew)); exact HO146.out) (Kd.R_base ho0) hb); replace HO149 := Aside0.mk (Kd.R_elder' (by (with_reducible repeat (first | apply Kd.R_alloc | apply Kd.R_drewN | apply Kd.R_drew)); exact HO149.out) (Kd.R_base ho1) hb); replace HO152 := Aside0.mk (Kd.R_elder' (by (with_reducible repeat (first | apply Kd.R_alloc | apply Kd.R_drewN | apply Kd.R_drew)); exact HO152.out) (Kd.R_base ho2) hb); replace BK154 := Aside0.mk (blk_below (g := gb154) (o := .cells #[.slice Ao10 t144.length co10, .slice Ao12 t147.length co12, .slice Ao13 t150.length co13] 26 (0, 0)) (by (with_reducible repeat (first | refine blk_drewN ?_ _ | refine blk_drew ?_ | refine blk_alloc ?_ _)); exact BK154.out) hb); replace HB := Aside0.mk (below_step (by repeat (first | (with_reducible first | exact HB.out | apply below_alloc | apply pw_below_drewN | apply below_drew1 | refine below_set ?_ GE154.out) | exact HB.out)) hb); (try clear hb); (try clear hb2); (try clear hk); (try clear hi); (try clear ho0); (try clear ho1); (try clear ho2)) | ((with_reducible refine gate_dst (N := 6) rfl ?_); refine box_event ?hg (N := 6) ?hd (cs := #[.slice none 0 0, .slice none 0 0, .slice none 0 0]) (t := 26) ?hr ?_; (case hd => rfl); (case hg => rfl); (case hr => first | (go_simp; done) | (go_simp; rfl)); intro gb168 hg w16 hbox hb; have BK168 := Aside0.mk (hbox); have GW168 := Aside0.mk ((by rw [hg]; exact (below_size (by repeat (first | (with_reducible first | exact HB.out | apply below_alloc | apply pw_below_drewN | apply below_drew1 | refine below_set ?_ GE154.out) | exact HB.out))) : w.heap.size ≤ gb168)); have GE168 := Aside0.mk ((by rw [hg]; exact (below_size (by repeat (first | (with_reducible first | exact HB.out | apply below_alloc | apply pw_below_drewN | apply below_drew1 | refine below_set ?_ GE154.out) | exact HB.out))) : w.heap.size ≤ gb168)); have NB154_168 := Aside0.mk ((by rw [hg]; exact Nat.ne_of_lt (blk_lt (g := gb154) (o := .cells #[.slice Ao10 t144.length co10, .slice Ao12 t147.length co12, .slice Ao13 t150.length co13] 26 (0, 0)) (by (with_reducible repeat (first | refine blk_drewN ?_ _ | refine blk_drew ?_ | refine blk_alloc ?_ _)); exact BK154.out)) : gb154 ≠ gb168)); have NB168_154 := Aside0.mk ((by rw [hg]; exact Nat.ne_of_gt (blk_lt (g := gb154) (o := .cells #[.slice Ao10 t144.length co10, .slice Ao12 t147.length co12, .slice Ao13 t150.length co13] 26 (0, 0)) (by (with_reducible repeat (first | refine blk_drewN ?_ _ | refine blk_drew ?_ | refine blk_alloc ?_ _)); exact BK154.out)) : gb168 ≠ gb154)); replace HO146 := Aside0.mk (Kd.R_below (by (with_reducible repeat (first | apply Kd.R_alloc | apply Kd.R_drewN | apply Kd.R_drew)); exact HO146.out) hb); replace HO149 := Aside0.mk (Kd.R_below (by (with_reducible repeat (first | apply Kd.R_alloc | apply Kd.R_drewN | apply Kd.R_drew)); exact HO149.out) hb); replace HO152 := Aside0.mk (Kd.R_below (by (with_reducible repeat (first | apply Kd.R_alloc | apply Kd.R_drewN | apply Kd.R_drew)); exact HO152.out) hb); replace HO160 := Aside0.mk (Kd.R_below (by (with_reducible repeat (first | apply Kd.R_alloc | apply Kd.R_drewN | apply Kd.R_drew)); exact HO160.out) hb); replace HO163 := Aside0.mk (Kd.R_below (by (with_reducible repeat (first | apply Kd.R_alloc | apply Kd.R_drewN | apply Kd.R_drew)); exact HO163.out) hb); replace HO166 := Aside0.mk (Kd.R_below (by (with_reducible repeat (first | apply Kd.R_alloc | apply Kd.R_drewN | apply Kd.R_drew)); exact HO166.out) hb); replace BK154 := Aside0.mk (blk_below (g := gb154) (o := .cells #[.slice Ao10 t144.length co10, .slice Ao12 t147.length co12, .slice Ao13 t150.length co13] 26 (0, 0)) (by (with_reducible repeat (first | refine blk_drewN ?_ _ | refine blk_drew ?_ | refine blk_alloc ?_ _)); exact BK154.out) hb); replace HB := Aside0.mk (below_step (by repeat (first | (with_reducible first | exact HB.out | apply below_alloc | apply pw_below_drewN | apply below_drew1 | refine below_set ?_ GE154.out) | exact HB.out)) hb); clear hb hbox hg; obtain ⟨Ao17, co17, eo17⟩ := Kd.R_slice HO160.out; subst eo17; have hnb18 := NB168_154.out; have hnc18 := NB154_168.out; have hcz19_0 : w16.cell? ⟨gb168, 0, none⟩ = some (.slice none 0 0) := (blk_cell BK168.out 0).trans rfl; have hcz19_1 : w16.cell? ⟨gb168, 1, none⟩ = some (.slice none 0 0) := (blk_cell BK168.out 1).trans rfl; have hcz19_2 : w16.cell? ⟨gb168, 2, none⟩ = some (.slice none 0 0) := (blk_cell BK168.out 2).trans rfl; have hfz19_0 := blk_frozen BK168.out 0; have hfz19_1 := blk_frozen BK168.out 1; have hfz19_2 := blk_frozen BK168.out 2; obtain ⟨Ao20, co20, eo20⟩ := Kd.R_slice HO163.out; subst eo20; obtain ⟨Ao21, co21, eo21⟩ := Kd.R_slice HO166.out; subst eo21))
  go_ret
  exact ⟨by first | rfl | (simp [errW_none, errW_some] <;> rfl) | (simp [errW_none, errW_some]; exact ⟨rfl, rfl, rfl⟩) | (simp [*, errW_none, errW_some] <;> rfl), by repeat (first | (with_reducible first | exact HB.out | apply below_alloc | apply pw_below_drewN | apply below_drew1 | refine below_set ?_ GE154.out | refine below_set ?_ GE168.out) | exact HB.out)⟩
/-! ### bazaarlaw06_cut: function 11 -/
mutual
def bazaarlaw06_cut.l0 : Nat → Int → List (S39) → List ByteArray → List Int → List (S39) → Option ((List (S39)) × List ByteArray × List Int)
  | 0, _, _, _, _, _ => none
  | k + 1, x4, x170000, x170001, x170002, x172000 => if x4 < (x170000.length : Int) then (bazaarlaw06_cut.j1 k x4 (decide (x4 < 260)) x170000 x170001 x170002 x172000) else (bazaarlaw06_cut.j1 k x4 false x170000 x170001 x170002 x172000)
def bazaarlaw06_cut.j1 : Nat → Int → Bool → List (S39) → List ByteArray → List Int → List (S39) → Option ((List (S39)) × List ByteArray × List Int)
  | 0, _, _, _, _, _, _ => none
  | k + 1, x4, x14, x170000, x170001, x170002, x172000 => if x14 = true then (if 0 ≤ x4 then (if x4 < (x170000.length : Int) then ((bazaarlaw06_text.f ((rd_T39 x170000 x4).f0)).bind fun t173 => ((bazaarlaw06_text.f ((rd_T39 x170000 x4).f1)).bind fun t175 => (if x172000.length < 4398046511104 then (bazaarlaw06_cut.l0 k (wrap64 (x4 + 1)) x170000 x170001 x170002 (x172000 ++ [(⟨t173, t175⟩ : S39)])) else (none)))) else (none)) else (none)) else (bazaarlaw06_cut.l1 k 0 x170000 x170001 x170002 x172000 ([] : List ByteArray))
def bazaarlaw06_cut.l1 : Nat → Int → List (S39) → List ByteArray → List Int → List (S39) → List ByteArray → Option ((List (S39)) × List ByteArray × List Int)
  | 0, _, _, _, _, _, _ => none
  | k + 1, x5, x170000, x170001, x170002, x172000, x172001 => if x5 < (x170001.length : Int) then (if x5 < 260 then (if 0 ≤ x5 then ((bazaarlaw06_text.f (rdOf ByteArray.empty x170001 x5)).bind fun t180 => (if x172001.length < 8796093022208 then (bazaarlaw06_cut.l1 k (wrap64 (x5 + 1)) x170000 x170001 x170002 x172000 (x172001 ++ [t180])) else (none))) else (none)) else (if 0 ≤ (mn (x170002.length : Int) 260) then (if (mn (x170002.length : Int) 260) ≤ (x170002.length : Int) then (if ([] : List Int).length + (x170002.take ((mn (x170002.length : Int) 260) : Int).toNat).length < 35184372088832 then (some (x172000, x172001, (([] : List Int) ++ (x170002.take ((mn (x170002.length : Int) 260) : Int).toNat)))) else (none)) else (none)) else (none))) else (if 0 ≤ (mn (x170002.length : Int) 260) then (if (mn (x170002.length : Int) 260) ≤ (x170002.length : Int) then (if ([] : List Int).length + (x170002.take ((mn (x170002.length : Int) 260) : Int).toNat).length < 35184372088832 then (some (x172000, x172001, (([] : List Int) ++ (x170002.take ((mn (x170002.length : Int) 260) : Int).toNat)))) else (none)) else (none)) else (none))
end
def bazaarlaw06_cut.f (k : Nat) (l0_0 : List (S39)) (l0_1 : List ByteArray) (l0_2 : List Int) : Option ((List (S39)) × List ByteArray × List Int) := bazaarlaw06_cut.l0 k 0 l0_0 l0_1 l0_2 ([] : List (S39))
def bazaarlaw06_cut.T5 : Bool × List (List Nat × List Nat) := (true, [([], []), ([0], [0]), ([], []), ([2], [2]), ([], []), ([3, 4], [3, 4]), ([5], [5]), ([6], [6]), ([7], [7]), ([], []), ([9], [9]), ([], []), ([10, 11], [10, 11]), ([12], [12]), ([13], [13]), ([14, 8], [14]), ([8, 15], [8, 15]), ([16], [16]), ([1, 17, 15], [1, 17]), ([0, 1, 2, 3, 4, 5, 6, 7, 8, 9, 10, 11, 12, 13, 14, 15, 16, 17, 18], []), ([19, 18, 18, 0, 1, 2, 3, 4, 5, 6, 7, 8, 9, 10, 11, 12, 13, 14, 15, 16, 17, 18], [18, 19])])
def bazaarlaw06_cut.B5 : List Nat := [0, 1, 0, 4, 0, 28, 60, 124, 252, 0, 512, 0, 3584, 7680, 15872, 32764, 65532, 131068, 262143, 524287, 1048575]
theorem bazaarlaw06_cut.tab5 : rtab .any (opsOf Try.f11 5) = bazaarlaw06_cut.T5 := by kernel_rfl
theorem bazaarlaw06_cut.bits5 : waitsOk bazaarlaw06_cut.T5.2 bazaarlaw06_cut.B5 = true := by kernel_rfl
def bazaarlaw06_cut.T9 : Bool × List (List Nat × List Nat) := (true, [([], []), ([0], [0]), ([], []), ([2], [2]), ([], []), ([3, 4], [3, 4]), ([5], [5]), ([6], [6]), ([7], [7]), ([1, 8, 7], [1, 8]), ([0, 1, 2, 3, 4, 5, 6, 7, 8, 9], []), ([10, 9, 9, 0, 1, 2, 3, 4, 5, 6, 7, 8, 9], [9, 10])])
def bazaarlaw06_cut.B9 : List Nat := [0, 1, 0, 4, 0, 28, 60, 124, 252, 511, 1023, 2047]
theorem bazaarlaw06_cut.tab9 : rtab .any (opsOf Try.f11 9) = bazaarlaw06_cut.T9 := by kernel_rfl
theorem bazaarlaw06_cut.bits9 : waitsOk bazaarlaw06_cut.T9.2 bazaarlaw06_cut.B9 = true := by kernel_rfl
def bazaarlaw06_cut.T10 : Bool × List (List Nat × List Nat) := (true, [([], []), ([0], [0]), ([], []), ([2], [2]), ([], []), ([4], [4]), ([5], [5]), ([6], [6]), ([3, 7], [3, 7]), ([1, 8], [1, 8]), ([0, 1, 2, 3, 4, 5, 6, 7, 8, 9], []), ([10, 9, 9, 0, 1, 2, 3, 4, 5, 6, 7, 8, 9], [9, 10])])
def bazaarlaw06_cut.B10 : List Nat := [0, 1, 0, 4, 0, 16, 48, 112, 252, 511, 1023, 2047]
theorem bazaarlaw06_cut.tab10 : rtab .any (opsOf Try.f11 10) = bazaarlaw06_cut.T10 := by kernel_rfl
theorem bazaarlaw06_cut.bits10 : waitsOk bazaarlaw06_cut.T10.2 bazaarlaw06_cut.B10 = true := by kernel_rfl
set_option maxHeartbeats 8000000 in
set_option maxRecDepth 100000 in
theorem bazaarlaw06_cut.calls (k : Nat) (A0_0 : Option Addr) (c0_0 : Nat) (l0_0 : List (S39)) (A0_1 : Option Addr) (c0_1 : Nat) (l0_1 : List ByteArray) (A0_2 : Option Addr) (c0_2 : Nat) (l0_2 : List Int) (r1 : List (S39)) (r2 : List ByteArray) (r3 : List Int) (w : World) (hr0_0 : Kd.C k39 w A0_0 l0_0.length l0_0) (hc0_0 : l0_0.length ≤ c0_0) (hr0_1 : Kd.C Kd.string w A0_1 l0_1.length l0_1) (hc0_1 : l0_1.length ≤ c0_1) (hr0_2 : Kd.C (Kd.int .u32) w A0_2 l0_2.length l0_2) (hc0_2 : l0_2.length ≤ c0_2) (h : bazaarlaw06_cut.f k l0_0 l0_1 l0_2 = some (r1, r2, r3)) :
    Calls Try.prog 11 #[.agg #[.slice A0_0 l0_0.length c0_0, .slice A0_1 l0_1.length c0_1, .slice A0_2 l0_2.length c0_2]] w fun e w' => ∃ v0_ v1_ v2_ : Value, e = .returned (.agg #[v0_, v1_, v2_]) ∧ Kd.R k39 39 w' w.heap.size (fun _ => True) v0_ r1 ∧ Kd.R Kd.string 9 w' w.heap.size (fun _ => True) v1_ r2 ∧ Kd.R (Kd.int .u32) 65 w' w.heap.size (fun _ => True) v2_ r3 ∧ Below w.heap.size w w' := by
  have hu26 := Try.underlying26
  have hu39 := Try.underlying39
  have HR0_0 := Aside0.mk hr0_0
  have HC0_0 := Aside0.mk hc0_0
  clear hr0_0 hc0_0
  have HR0_1 := Aside0.mk hr0_1
  have HC0_1 := Aside0.mk hc0_1
  clear hr0_1 hc0_1
  have HR0_2 := Aside0.mk hr0_2
  have HC0_2 := Aside0.mk hc0_2
  clear hr0_2 hc0_2
  have HB := Aside0.mk (Below.refl w.heap.size w)
  have H : (bazaarlaw06_cut.l0 k 0 l0_0 l0_1 l0_2 ([] : List (S39))) = some (r1, r2, r3) := h
  clear h
  have H' := Aside0.mk H
  clear H
  go_enter Try.func11, Try.ntmps11
  go_wp2_with (first | ((with_reducible refine gate_dst (N := 1) rfl ?_); refine box_event ?hg (N := 1) ?hd (cs := #[.slice A0_0 l0_0.length c0_0, .slice A0_1 l0_1.length c0_1, .slice A0_2 l0_2.length c0_2]) (t := 26) ?hr ?_; (case hd => rfl); (case hg => rfl); (case hr => first | (go_simp; done) | (go_simp; rfl)); intro gb169 hg w2 hbox hb; have BK169 := Aside0.mk (hbox); have GW169 := Aside0.mk ((by rw [hg]; exact (below_size (L_ HB.out)) : w.heap.size ≤ gb169)); have GE169 := Aside0.mk ((by rw [hg]; exact (below_size (L_ HB.out)) : w.heap.size ≤ gb169)); replace HB := Aside0.mk (below_step (L_ HB.out) hb); clear hb hbox hg) | ((with_reducible refine gate_dst (N := 2) rfl ?_); refine box_event ?hg (N := 2) ?hd (cs := #[.slice none 0 0, .slice none 0 0, .slice none 0 0]) (t := 26) ?hr ?_; (case hd => rfl); (case hg => rfl); (case hr => first | (go_simp; done) | (go_simp; rfl)); intro gb170 hg w3 hbox hb; have BK170 := Aside0.mk (hbox); have GW170 := Aside0.mk ((by rw [hg]; exact (below_size (L_ HB.out)) : w.heap.size ≤ gb170)); have GE170 := Aside0.mk ((by rw [hg]; exact (below_size (L_ HB.out)) : w.heap.size ≤ gb170)); have NB169_170 := Aside0.mk ((by rw [hg]; exact Nat.ne_of_lt (blk_lt (g := gb169) (o := .cells #[.slice A0_0 l0_0.length c0_0, .slice A0_1 l0_1.length c0_1, .slice A0_2 l0_2.length c0_2] 26 (0, 0)) (B_ BK169.out)) : gb169 ≠ gb170)); have NB170_169 := Aside0.mk ((by rw [hg]; exact Nat.ne_of_gt (blk_lt (g := gb169) (o := .cells #[.slice A0_0 l0_0.length c0_0, .slice A0_1 l0_1.length c0_1, .slice A0_2 l0_2.length c0_2] 26 (0, 0)) (B_ BK169.out)) : gb170 ≠ gb169)); replace BK169 := Aside0.mk (blk_below (g := gb169) (o := .cells #[.slice A0_0 l0_0.length c0_0, .slice A0_1 l0_1.length c0_1, .slice A0_2 l0_2.length c0_2] 26 (0, 0)) (B_ BK169.out) hb); replace HB := Aside0.mk (below_step (L_ HB.out) hb); clear hb hbox hg) | ((with_reducible refine gate_dst (N := 3) rfl ?_); refine box_event ?hg (N := 3) ?hd (cs := #[.slice none 0 0, .slice none 0 0, .slice none 0 0]) (t := 26) ?hr ?_; (case hd => rfl); (case hg => rfl); (case hr => first | (go_simp; done) | (go_simp; rfl)); intro gb171 hg w4 hbox hb; have BK171 := Aside0.mk (hbox); have GW171 := Aside0.mk ((by rw [hg]; exact (below_size (L_ HB.out)) : w.heap.size ≤ gb171)); have GE171 := Aside0.mk ((by rw [hg]; exact (below_size (L_ HB.out)) : w.heap.size ≤ gb171)); have NB169_171 := Aside0.mk ((by rw [hg]; exact Nat.ne_of_lt (blk_lt (g := gb169) (o := .cells #[.slice A0_0 l0_0.length c0_0, .slice A0_1 l0_1.length c0_1, .slice A0_2 l0_2.length c0_2] 26 (0, 0)) (B_ BK169.out)) : gb169 ≠ gb171)); have NB171_169 := Aside0.mk ((by rw [hg]; exact Nat.ne_of_gt (blk_lt (g := gb169) (o := .cells #[.slice A0_0 l0_0.length c0_0, .slice A0_1 l0_1.length c0_1, .slice A0_2 l0_2.length c0_2] 26 (0, 0)) (B_ BK169.out)) : gb171 ≠ gb169)); have NB170_171 := Aside0.mk ((by rw [hg]; exact Nat.ne_of_lt (blk_lt (g := gb170) (o := .cells #[.slice none 0 0, .slice none 0 0, .slice none 0 0] 26 (0, 0)) (B_ BK170.out)) : gb170 ≠ gb171)); have NB171_170 := Aside0.mk ((by rw [hg]; exact Nat.ne_of_gt (blk_lt (g := gb170) (o := .cells #[.slice none 0 0, .slice none 0 0, .slice none 0 0] 26 (0, 0)) (B_ BK170.out)) : gb171 ≠ gb170)); replace BK169 := Aside0.mk (blk_below (g := gb169) (o := .cells #[.slice A0_0 l0_0.length c0_0, .slice A0_1 l0_1.length c0_1, .slice A0_2 l0_2.length c0_2] 26 (0, 0)) (B_ BK169.out) hb); replace BK170 := Aside0.mk (blk_below (g := gb170) (o := .cells #[.slice none 0 0, .slice none 0 0, .slice none 0 0] 26 (0, 0)) (B_ BK170.out) hb); replace HB := Aside0.mk (below_step (L_ HB.out) hb); clear hb hbox hg))
  go_loopg [4] k (fun kq v4 w' => ∃ (x4_1 : Int) (x172000_1 : List (S39)) (u172000 : Value), v4 = .int .i64 x4_1 ∧ Aside0 (bazaarlaw06_cut.l0 kq x4_1 l0_0 l0_1 l0_2 x172000_1 = some (r1, r2, r3)) ∧ Aside0 (kq ≤ k) ∧ Aside0 (Kd.R k39 39 w' w.heap.size (fun _ => True) u172000 x172000_1) ∧ Aside0 (w'.heap[gb169]? = some (.cells #[(.slice A0_0 l0_0.length c0_0), (.slice A0_1 l0_1.length c0_1), (.slice A0_2 l0_2.length c0_2)] 26 (0, 0))) ∧ Aside0 (w'.heap[gb170]? = some (.cells #[(.slice none 0 0), (.slice none 0 0), (.slice none 0 0)] 26 (0, 0))) ∧ Aside0 (w'.heap[gb171]? = some (.cells #[u172000, (.slice none 0 0), (.slice none 0 0)] 26 (0, 0))) ∧ Aside0 (Below w.heap.size w w'))
  case atStart => exact ⟨(0), (([] : List (S39))), (.slice none 0 0), (by first | rfl | (simp; done) | (simp [*]; done)), H', ⟨Nat.le_refl _⟩, ⟨by first | exact Kd.R_nil _ _ _ _ _ | exact Kd.N_nil _ _ _ _ _ | exact Kd.V_nil _ _ _ _ _ | exact Kd.Q_nil _ _ _ _ _ | exact Kd.S_nil _ _ _ _ _⟩, ⟨by (with_reducible repeat (first | refine blk_drewN ?_ _ | refine blk_drew ?_ | refine blk_alloc ?_ _)); exact BK169.out⟩, ⟨by (with_reducible repeat (first | refine blk_drewN ?_ _ | refine blk_drew ?_ | refine blk_alloc ?_ _)); exact BK170.out⟩, ⟨by (with_reducible repeat (first | refine blk_drewN ?_ _ | refine blk_drew ?_ | refine blk_alloc ?_ _)); exact BK171.out⟩, ⟨by repeat (first | (with_reducible first | exact HB.out | apply below_alloc | apply pw_below_drewN | apply below_drew1 | refine below_set ?_ GE169.out | refine below_set ?_ GE170.out | refine below_set ?_ GE171.out) | exact HB.out)⟩⟩
  case round =>
    clear H'
    try clear c1
    try clear p2
    obtain ⟨x4_1, x172000_1, u172000, rfl, HA, HK1, HO_172000, BK169, BK170, BK171, HB⟩ := hrel
    cases gk with
    | zero => exact absurd HA.out (by simp [bazaarlaw06_cut.l0])
    | succ k1 =>
      have H := HA.out
      clear HA
      simp only [bazaarlaw06_cut.l0] at H
      have HC5 := Aside0.mk H
      clear H
      go_upto_region 3 with (fail)
      go_cut [14] (fun v14 wc => ∃ (kq : Nat) (x14_4 : Bool), v14 = .bool x14_4 ∧ Aside0 (bazaarlaw06_cut.j1 kq x4_1 x14_4 l0_0 l0_1 l0_2 x172000_1 = some (r1, r2, r3)) ∧ Aside0 (kq ≤ k1) ∧ Aside0 (Kd.R k39 39 wc w.heap.size (fun _ => True) u172000 x172000_1) ∧ Aside0 (wc.heap[gb169]? = some (.cells #[(.slice A0_0 l0_0.length c0_0), (.slice A0_1 l0_1.length c0_1), (.slice A0_2 l0_2.length c0_2)] 26 (0, 0))) ∧ Aside0 (wc.heap[gb170]? = some (.cells #[(.slice none 0 0), (.slice none 0 0), (.slice none 0 0)] 26 (0, 0))) ∧ Aside0 (wc.heap[gb171]? = some (.cells #[u172000, (.slice none 0 0), (.slice none 0 0)] 26 (0, 0))) ∧ Aside0 (Below w.heap.size w wc))
      case first =>
        have H := HC5.out
        clear HC5
        by_cases c6 : x4_1 < (l0_0.length : Int)
        · rw [if_pos c6] at H
          have c6b0 : decide (x4_1 < (l0_0.length : Int)) = true := decide_eq_true c6
          clear c6
          (first | rw [c6b0] | (simp only [i64_w, i32_w]; rw [c6b0]) | skip)
          have H' := Aside0.mk H
          clear H
          have hnb7 := NB169_170.out
          have hnc7 := NB170_169.out
          have hnb8 := NB169_171.out
          have hnc8 := NB171_169.out
          have hcz9_0 : wr.cell? ⟨gb169, 0, none⟩ = some (.slice A0_0 l0_0.length c0_0) := (blk_cell BK169.out 0).trans rfl
          have hcz9_1 : wr.cell? ⟨gb169, 1, none⟩ = some (.slice A0_1 l0_1.length c0_1) := (blk_cell BK169.out 1).trans rfl
          have hcz9_2 : wr.cell? ⟨gb169, 2, none⟩ = some (.slice A0_2 l0_2.length c0_2) := (blk_cell BK169.out 2).trans rfl
          have hfz9_0 := blk_frozen BK169.out 0
          have hfz9_1 := blk_frozen BK169.out 1
          have hfz9_2 := blk_frozen BK169.out 2
          go_wp2
          go_meet
          case rel => exact ⟨_, (decide (x4_1 < 260)), (by first | rfl | (simp; done) | (simp [*]; done)), H', ⟨by have := HK1.out; first | omega | exact Nat.le_refl _⟩, ⟨by (with_reducible repeat (first | apply Kd.R_alloc | apply Kd.R_drewN | apply Kd.R_drew)); exact HO_172000.out⟩, ⟨by (with_reducible repeat (first | refine blk_drewN ?_ _ | refine blk_drew ?_ | refine blk_alloc ?_ _)); exact BK169.out⟩, ⟨by (with_reducible repeat (first | refine blk_drewN ?_ _ | refine blk_drew ?_ | refine blk_alloc ?_ _)); exact BK170.out⟩, ⟨by (with_reducible repeat (first | refine blk_drewN ?_ _ | refine blk_drew ?_ | refine blk_alloc ?_ _)); exact BK171.out⟩, ⟨by repeat (first | (with_reducible first | exact HB.out | apply below_alloc | apply pw_below_drewN | apply below_drew1 | refine below_set ?_ GE169.out | refine below_set ?_ GE170.out | refine below_set ?_ GE171.out) | exact HB.out)⟩⟩
        · rw [if_neg c6] at H
          have c6b0 : decide (x4_1 < (l0_0.length : Int)) = false := decide_eq_false c6
          clear c6
          (first | rw [c6b0] | (simp only [i64_w, i32_w]; rw [c6b0]) | skip)
          have H' := Aside0.mk H
          clear H
          have hnb10 := NB169_170.out
          have hnc10 := NB170_169.out
          have hnb11 := NB169_171.out
          have hnc11 := NB171_169.out
          have hcz12_0 : wr.cell? ⟨gb169, 0, none⟩ = some (.slice A0_0 l0_0.length c0_0) := (blk_cell BK169.out 0).trans rfl
          have hcz12_1 : wr.cell? ⟨gb169, 1, none⟩ = some (.slice A0_1 l0_1.length c0_1) := (blk_cell BK169.out 1).trans rfl
          have hcz12_2 : wr.cell? ⟨gb169, 2, none⟩ = some (.slice A0_2 l0_2.length c0_2) := (blk_cell BK169.out 2).trans rfl
          have hfz12_0 := blk_frozen BK169.out 0
          have hfz12_1 := blk_frozen BK169.out 1
          have hfz12_2 := blk_frozen BK169.out 2
          go_wp2
          go_meet
          case rel => exact ⟨_, (false), (by first | rfl | (simp; done) | (simp [*]; done)), H', ⟨by have := HK1.out; first | omega | exact Nat.le_refl _⟩, ⟨by (with_reducible repeat (first | apply Kd.R_alloc | apply Kd.R_drewN | apply Kd.R_drew)); exact HO_172000.out⟩, ⟨by (with_reducible repeat (first | refine blk_drewN ?_ _ | refine blk_drew ?_ | refine blk_alloc ?_ _)); exact BK169.out⟩, ⟨by (with_reducible repeat (first | refine blk_drewN ?_ _ | refine blk_drew ?_ | refine blk_alloc ?_ _)); exact BK170.out⟩, ⟨by (with_reducible repeat (first | refine blk_drewN ?_ _ | refine blk_drew ?_ | refine blk_alloc ?_ _)); exact BK171.out⟩, ⟨by repeat (first | (with_reducible first | exact HB.out | apply below_alloc | apply pw_below_drewN | apply below_drew1 | refine below_set ?_ GE169.out | refine below_set ?_ GE170.out | refine below_set ?_ GE171.out) | exact HB.out)⟩⟩
      case rest =>
        clear HC5
        try clear c1
        try clear p2
        try clear c6
        try clear c6b0
        try clear c7
        try clear c8
        try clear c10
        try clear c11
        try clear hcz12_0
        try clear hcz12_1
        try clear hcz12_2
        try clear hcz9_0
        try clear hcz9_1
        try clear hcz9_2
        try clear hfz12_0
        try clear hfz12_1
        try clear hfz12_2
        try clear hfz9_0
        try clear hfz9_1
        try clear hfz9_2
        try clear p2
        obtain ⟨kq, x14_4, rfl, HA, HJ4, HO_172000, BK169, BK170, BK171, HB⟩ := hcut
        cases kq with
        | zero => exact absurd HA.out (by simp [bazaarlaw06_cut.j1])
        | succ kj4 =>
          have H := HA.out
          clear HA
          simp only [bazaarlaw06_cut.j1] at H
          by_cases c13 : x14_4 = true
          · subst c13
            have H1 : (if 0 ≤ x4_1 then (if x4_1 < (l0_0.length : Int) then ((bazaarlaw06_text.f ((rd_T39 l0_0 x4_1).f0)).bind fun t173 => ((bazaarlaw06_text.f ((rd_T39 l0_0 x4_1).f1)).bind fun t175 => (if x172000_1.length < 4398046511104 then (bazaarlaw06_cut.l0 kj4 (wrap64 (x4_1 + 1)) l0_0 l0_1 l0_2 (x172000_1 ++ [(⟨t173, t175⟩ : S39)])) else (none)))) else (none)) else (none)) = some (r1, r2, r3) := by rw [if_pos rfl] at H; exact H
            clear H
            have H := H1
            clear H1
            by_cases c14 : 0 ≤ x4_1
            · rw [if_pos c14] at H
              have c14b0 : decide (0 ≤ x4_1) = true := decide_eq_true c14
              clear c14
              by_cases c15 : x4_1 < (l0_0.length : Int)
              · rw [if_pos c15] at H
                have c15b0 : decide (x4_1 < (l0_0.length : Int)) = true := decide_eq_true c15
                clear c15
                replace H := Option.bind_eq_some_iff.mp H
                obtain ⟨t173, A160, H⟩ := H
                replace H : ((bazaarlaw06_text.f ((rd_T39 l0_0 x4_1).f1)).bind fun t175 => (if x172000_1.length < 4398046511104 then (bazaarlaw06_cut.l0 kj4 (wrap64 (x4_1 + 1)) l0_0 l0_1 l0_2 (x172000_1 ++ [(⟨t173, t175⟩ : S39)])) else (none))) = some (r1, r2, r3) := H
                have A16 := Aside0.mk A160
                clear A160
                replace H := Option.bind_eq_some_iff.mp H
                obtain ⟨t175, A170, H⟩ := H
                replace H : (if x172000_1.length < 4398046511104 then (bazaarlaw06_cut.l0 kj4 (wrap64 (x4_1 + 1)) l0_0 l0_1 l0_2 (x172000_1 ++ [(⟨t173, t175⟩ : S39)])) else (none)) = some (r1, r2, r3) := H
                have A17 := Aside0.mk A170
                clear A170
                by_cases c18 : x172000_1.length < 4398046511104
                · rw [if_pos c18] at H
                  have LMc18 := Aside0.mk c18
                  clear c18
                  obtain ⟨y176, hy176⟩ : ∃ y_ : List (S39), y_ = (x172000_1 ++ [(⟨t173, t175⟩ : S39)]) := ⟨_, rfl⟩
                  replace H : (bazaarlaw06_cut.l0 kj4 (wrap64 (x4_1 + 1)) l0_0 l0_1 l0_2 y176) = some (r1, r2, r3) := by first | (rw [hy176]; with_reducible exact H) | (have H2_ := (Option.bind_some _ _).symm.trans H; rw [hy176]; with_reducible exact H2_) | (have H2_ := (Option.bind_some _ _).symm.trans H; with_reducible exact H2_) | with_reducible exact H | (rw [hy176]; exact H) | exact H
                  have Ny176 := Aside0.mk hy176
                  clear hy176
                  have H' := Aside0.mk H
                  clear H
                  try go_wp2
                  replace HO_172000 := Aside0.mk (Kd.R_drew HO_172000.out)
                  replace BK169 := Aside0.mk (blk_drew BK169.out)
                  replace BK170 := Aside0.mk (blk_drew BK170.out)
                  replace BK171 := Aside0.mk (blk_drew BK171.out)
                  replace HB := Aside0.mk (below_drew1 HB.out)
                  have p172 : 0 ≤ (x4_1 : Int) := of_decide_eq_true (by first | (with_reducible assumption) | assumption)
                  have q172 : x4_1 < (l0_0.length : Int) := of_decide_eq_true (by first | (with_reducible assumption) | assumption)
                  obtain ⟨ad172, e172, hx172_0, hx172_1⟩ := at_T39 HR0_0.out x4_1 p172 q172
                  have hw172_1 := hx172_1
                  have hw172_0 := hx172_0
                  cases e172
                  replace hx172_0 := (HB.out.cell (World.block_lt_of_cell? w _ hx172_0)).trans hx172_0
                  replace hx172_1 := (HB.out.cell (World.block_lt_of_cell? w _ hx172_1)).trans hx172_1
                  replace p172 := eq_true p172
                  replace q172 := eq_true q172
                  have p174 : 0 ≤ (x4_1 : Int) := of_decide_eq_true (by first | (with_reducible assumption) | assumption)
                  have q174 : x4_1 < (l0_0.length : Int) := of_decide_eq_true (by first | (with_reducible assumption) | assumption)
                  obtain ⟨ad174, e174, hx174_0, hx174_1⟩ := at_T39 HR0_0.out x4_1 p174 q174
                  have hw174_1 := hx174_1
                  have hw174_0 := hx174_0
                  obtain rfl : ad172 = ad174 := (by injection e174)
                  replace hx174_0 := (HB.out.cell (World.block_lt_of_cell? w _ hx174_0)).trans hx174_0
                  replace hx174_1 := (HB.out.cell (World.block_lt_of_cell? w _ hx174_1)).trans hx174_1
                  replace p174 := eq_true p174
                  replace q174 := eq_true q174
                  refine start_ (n := 21) (S := fun w' => w'.cell? ⟨gb171, 0, none⟩ = some (u172000) ∧ w'.cell? ⟨gb171, 1, none⟩ = some (.slice none 0 0) ∧ w'.cell? ⟨gb171, 2, none⟩ = some (.slice none 0 0) ∧ w'.cell? ⟨gb169, 0, none⟩ = some (.slice (some ad172) l0_0.length c0_0) ∧ w'.cell? ⟨gb169, 1, none⟩ = some (.slice A0_1 l0_1.length c0_1) ∧ w'.cell? ⟨gb169, 2, none⟩ = some (.slice A0_2 l0_2.length c0_2) ∧ w'.cell? (ad172.add ((x4_1).toNat * 2)) = some (.string ((rd_T39 l0_0 x4_1).f0)) ∧ w'.cell? ⟨(ad172.add ((x4_1).toNat * 2)).block, (ad172.add ((x4_1).toNat * 2)).off + 1, none⟩ = some (.string ((rd_T39 l0_0 x4_1).f1)) ∧ w'.cell? (ad172.add ((x4_1).toNat * 2)) = some (.string ((rd_T39 l0_0 x4_1).f0)) ∧ w'.cell? ⟨(ad172.add ((x4_1).toNat * 2)).block, (ad172.add ((x4_1).toNat * 2)).off + 1, none⟩ = some (.string ((rd_T39 l0_0 x4_1).f1))) (ds := [20]) #[false, false, false, false, false, false, false, false, false, false, false, false, false, false, false, false, false, false, false, false, false] (by kernel_rfl) rfl rfl ⟨(blk_cell BK171.out 0).trans rfl, (blk_cell BK171.out 1).trans rfl, (blk_cell BK171.out 2).trans rfl, (blk_cell BK169.out 0).trans rfl, (blk_cell BK169.out 1).trans rfl, (blk_cell BK169.out 2).trans rfl, ((HB.out.cell (World.block_lt_of_cell? w _ hw172_0)).trans hw172_0), ((HB.out.cell (World.block_lt_of_cell? w _ hw172_1)).trans hw172_1), ((HB.out.cell (World.block_lt_of_cell? w _ hw174_0)).trans hw174_0), ((HB.out.cell (World.block_lt_of_cell? w _ hw174_1)).trans hw174_1)⟩ (fun hHeld => ?_); refine with_tabW bazaarlaw06_cut.tab5 bazaarlaw06_cut.bits5 (fun HT_ HW_ => ?_)
                  generalize wc.drew = w19 at HO_172000 BK169 BK170 BK171 HB hx172_0 hx172_1 hx174_0 hx174_1 hHeld ⊢
                  refine pure_ (i := 0) (N := some 17) (v := ?_) (a' := ?_) #[true, false, false, false, false, false, false, false, false, false, false, false, false, false, false, false, false, false, false, false, false] rfl rfl (any_of HT_.out (by kernel_rfl)) (fun _ _ _ h => h) (Or.inl ⟨by rfl, ?_⟩) ?_ ?_; rotate_left; (intro w'; go_simp; with_reducible rfl); rotate_left; (simp only [Act.put, List.setIfInBounds_toArray, List.set_cons_zero, List.set_cons_succ, i64_w, i32_w]; rfl)
                  refine pure_ (i := 2) (N := some 19) (v := ?_) (a' := ?_) #[true, false, true, false, false, false, false, false, false, false, false, false, false, false, false, false, false, false, false, false, false] rfl rfl (any_of HT_.out (by kernel_rfl)) (fun _ _ _ h => h) (Or.inl ⟨by rfl, ?_⟩) ?_ ?_; rotate_left; (intro w'; go_simp; with_reducible rfl); rotate_left; (simp only [Act.put, List.setIfInBounds_toArray, List.set_cons_zero, List.set_cons_succ, i64_w, i32_w]; rfl)
                  refine pure_ (i := 4) (N := some 21) (v := ?_) (a' := ?_) #[true, false, true, false, true, false, false, false, false, false, false, false, false, false, false, false, false, false, false, false, false] rfl rfl (any_of HT_.out (by kernel_rfl)) (fun _ _ _ h => h) (Or.inl ⟨by rfl, ?_⟩) ?_ ?_; rotate_left; (intro w'; go_simp; with_reducible rfl); rotate_left; (simp only [Act.put, List.setIfInBounds_toArray, List.set_cons_zero, List.set_cons_succ, i64_w, i32_w]; rfl)
                  refine pure_ (i := 9) (N := some 26) (v := ?_) (a' := ?_) #[true, false, true, false, true, false, false, false, false, true, false, false, false, false, false, false, false, false, false, false, false] rfl rfl (any_of HT_.out (by kernel_rfl)) (fun _ _ _ h => h) (Or.inl ⟨by rfl, ?_⟩) ?_ ?_; rotate_left; (intro w'; go_simp; with_reducible rfl); rotate_left; (simp only [Act.put, List.setIfInBounds_toArray, List.set_cons_zero, List.set_cons_succ, i64_w, i32_w]; rfl)
                  refine pure_ (i := 11) (N := some 28) (v := ?_) (a' := ?_) #[true, false, true, false, true, false, false, false, false, true, false, true, false, false, false, false, false, false, false, false, false] rfl rfl (any_of HT_.out (by kernel_rfl)) (fun _ _ _ h => h) (Or.inl ⟨by rfl, ?_⟩) ?_ ?_; rotate_left; (intro w'; go_simp; with_reducible rfl); rotate_left; (simp only [Act.put, List.setIfInBounds_toArray, List.set_cons_zero, List.set_cons_succ, i64_w, i32_w]; rfl)
                  refine take_ (i := 1) (N := some 18) (v := ?_) (a' := ?_) #[true, true, true, false, true, false, false, false, false, true, false, true, false, false, false, false, false, false, false, false, false] rfl rfl (take_ofW HT_.out HW_.out (by kernel_rfl)) (fun _ _ _ h => h) (Or.inl ⟨by rfl, ?_⟩) hHeld ?_ ?_
                  rotate_left
                  · rintro w' ⟨s0, s1, s2, s3, s4, s5, s6, s7, s8, s9⟩
                    go_simp
                    with_reducible rfl
                  rotate_left
                  · simp only [Act.put, List.setIfInBounds_toArray, List.set_cons_zero, List.set_cons_succ, i64_w, i32_w]
                    rfl
                  refine take_ (i := 3) (N := some 20) (v := ?_) (a' := ?_) #[true, true, true, true, true, false, false, false, false, true, false, true, false, false, false, false, false, false, false, false, false] rfl rfl (take_ofW HT_.out HW_.out (by kernel_rfl)) (fun _ _ _ h => h) (Or.inl ⟨by rfl, ?_⟩) hHeld ?_ ?_
                  rotate_left
                  · rintro w' ⟨s0, s1, s2, s3, s4, s5, s6, s7, s8, s9⟩
                    go_simp
                    with_reducible rfl
                  rotate_left
                  · simp only [Act.put, List.setIfInBounds_toArray, List.set_cons_zero, List.set_cons_succ, i64_w, i32_w]
                    rfl
                  refine pure_ (i := 5) (N := some 22) (v := ?_) (a' := ?_) #[true, true, true, true, true, true, false, false, false, true, false, true, false, false, false, false, false, false, false, false, false] rfl rfl (any_of HT_.out (by kernel_rfl)) (fun _ _ _ h => h) (Or.inl ⟨by rfl, ?_⟩) ?_ ?_; rotate_left; (intro w'; go_simp; with_reducible rfl); rotate_left; (simp only [Act.put, List.setIfInBounds_toArray, List.set_cons_zero, List.set_cons_succ, i64_w, i32_w]; rfl)
                  refine pure_ (i := 6) (N := some 23) (v := ?_) (a' := ?_) #[true, true, true, true, true, true, true, false, false, true, false, true, false, false, false, false, false, false, false, false, false] rfl rfl (any_of HT_.out (by kernel_rfl)) (fun _ _ _ h => h) (Or.inl ⟨by rfl, ?_⟩) ?_ ?_; rotate_left; (intro w'; go_simp; with_reducible rfl); rotate_left; (simp only [Act.put, List.setIfInBounds_toArray, List.set_cons_zero, List.set_cons_succ, i64_w, i32_w]; rfl)
                  refine take_ (i := 7) (N := some 24) (v := ?_) (a' := ?_) #[true, true, true, true, true, true, true, true, false, true, false, true, false, false, false, false, false, false, false, false, false] rfl rfl (take_ofW HT_.out HW_.out (by kernel_rfl)) (fun _ _ _ h => h) (Or.inl ⟨by rfl, ?_⟩) hHeld ?_ ?_
                  rotate_left
                  · rintro w' ⟨s0, s1, s2, s3, s4, s5, s6, s7, s8, s9⟩
                    go_simp
                    with_reducible rfl
                  rotate_left
                  · simp only [Act.put, List.setIfInBounds_toArray, List.set_cons_zero, List.set_cons_succ, i64_w, i32_w]
                    rfl
                  refine take_ (i := 10) (N := some 27) (v := ?_) (a' := ?_) #[true, true, true, true, true, true, true, true, false, true, true, true, false, false, false, false, false, false, false, false, false] rfl rfl (take_ofW HT_.out HW_.out (by kernel_rfl)) (fun _ _ _ h => h) (Or.inl ⟨by rfl, ?_⟩) hHeld ?_ ?_
                  rotate_left
                  · rintro w' ⟨s0, s1, s2, s3, s4, s5, s6, s7, s8, s9⟩
                    go_simp
                    with_reducible rfl
                  rotate_left
                  · simp only [Act.put, List.setIfInBounds_toArray, List.set_cons_zero, List.set_cons_succ, i64_w, i32_w]
                    rfl
                  refine pure_ (i := 12) (N := some 29) (v := ?_) (a' := ?_) #[true, true, true, true, true, true, true, true, false, true, true, true, true, false, false, false, false, false, false, false, false] rfl rfl (any_of HT_.out (by kernel_rfl)) (fun _ _ _ h => h) (Or.inl ⟨by rfl, ?_⟩) ?_ ?_; rotate_left; (intro w'; go_simp; with_reducible rfl); rotate_left; (simp only [Act.put, List.setIfInBounds_toArray, List.set_cons_zero, List.set_cons_succ, i64_w, i32_w]; rfl)
                  refine pure_ (i := 13) (N := some 30) (v := ?_) (a' := ?_) #[true, true, true, true, true, true, true, true, false, true, true, true, true, true, false, false, false, false, false, false, false] rfl rfl (any_of HT_.out (by kernel_rfl)) (fun _ _ _ h => h) (Or.inl ⟨by rfl, ?_⟩) ?_ ?_; rotate_left; (intro w'; go_simp; with_reducible rfl); rotate_left; (simp only [Act.put, List.setIfInBounds_toArray, List.set_cons_zero, List.set_cons_succ, i64_w, i32_w]; rfl)
                  refine take_ (i := 14) (N := some 31) (v := ?_) (a' := ?_) #[true, true, true, true, true, true, true, true, false, true, true, true, true, true, true, false, false, false, false, false, false] rfl rfl (take_ofW HT_.out HW_.out (by kernel_rfl)) (fun _ _ _ h => h) (Or.inl ⟨by rfl, ?_⟩) hHeld ?_ ?_
                  rotate_left
                  · rintro w' ⟨s0, s1, s2, s3, s4, s5, s6, s7, s8, s9⟩
                    go_simp
                    with_reducible rfl
                  rotate_left
                  · simp only [Act.put, List.setIfInBounds_toArray, List.set_cons_zero, List.set_cons_succ, i64_w, i32_w]
                    rfl
                  refine one_ (i := 8) (N := some 25) #[true, true, true, true, true, true, true, true, true, true, true, true, true, true, true, false, false, false, false, false, false] rfl rfl (one_of HT_.out (by kernel_rfl)) (by decide) (fun K hK => ?_)
                  refine goes_ Try.func19 (by kernel_rfl) rfl #[.string ((rd_T39 l0_0 x4_1).f0)] (by rfl) rfl rfl (by (try simp only [List.map_toArray, List.map_cons, List.map_nil]); first | done | rfl | (simp only [List.length_drop, List.length_take]; rfl)) ?_
                  with_reducible refine (bazaarlaw06_text.calls ((rd_T39 l0_0 x4_1).f0) t173 _ A16.out).mono ?_
                  rintro e w20 ⟨rfl, hb⟩
                  refine ⟨_, rfl, ?_⟩
                  replace HO_172000 := Aside0.mk (Kd.R_below (R_ HO_172000.out) hb)
                  replace BK169 := Aside0.mk (blk_below (g := gb169) (o := .cells #[.slice (some ad172) l0_0.length c0_0, .slice A0_1 l0_1.length c0_1, .slice A0_2 l0_2.length c0_2] 26 (0, 0)) (B_ BK169.out) hb)
                  replace BK170 := Aside0.mk (blk_below (g := gb170) (o := .cells #[.slice none 0 0, .slice none 0 0, .slice none 0 0] 26 (0, 0)) (B_ BK170.out) hb)
                  replace BK171 := Aside0.mk (blk_below (g := gb171) (o := .cells #[u172000, .slice none 0 0, .slice none 0 0] 26 (0, 0)) (B_ BK171.out) hb)
                  replace HB := Aside0.mk (below_step (L_ HB.out) hb)
                  (try clear hb)
                  (try clear hb2)
                  (try clear hk)
                  (try clear hi)
                  refine hK.out _ _ ⟨(blk_cell BK171.out 0).trans rfl, (blk_cell BK171.out 1).trans rfl, (blk_cell BK171.out 2).trans rfl, (blk_cell BK169.out 0).trans rfl, (blk_cell BK169.out 1).trans rfl, (blk_cell BK169.out 2).trans rfl, ((HB.out.cell (World.block_lt_of_cell? w _ hw172_0)).trans hw172_0), ((HB.out.cell (World.block_lt_of_cell? w _ hw172_1)).trans hw172_1), ((HB.out.cell (World.block_lt_of_cell? w _ hw174_0)).trans hw174_0), ((HB.out.cell (World.block_lt_of_cell? w _ hw174_1)).trans hw174_1)⟩ (fun hHeld => ?_)
                  clear hK K
                  refine norm_ (a' := ?_) ?_ ?_; rotate_left; (show Act.put _ (some 25) _ = _; simp only [Act.put, List.setIfInBounds_toArray, List.set_cons_zero, List.set_cons_succ, i64_w, i32_w]; rfl)
                  refine one_ (i := 15) (N := some 32) #[true, true, true, true, true, true, true, true, true, true, true, true, true, true, true, true, false, false, false, false, false] rfl rfl (one_of HT_.out (by kernel_rfl)) (by decide) (fun K hK => ?_)
                  refine goes_ Try.func19 (by kernel_rfl) rfl #[.string ((rd_T39 l0_0 x4_1).f1)] (by rfl) rfl rfl (by (try simp only [List.map_toArray, List.map_cons, List.map_nil]); first | done | rfl | (simp only [List.length_drop, List.length_take]; rfl)) ?_
                  with_reducible refine (bazaarlaw06_text.calls ((rd_T39 l0_0 x4_1).f1) t175 _ A17.out).mono ?_
                  rintro e w21 ⟨rfl, hb⟩
                  refine ⟨_, rfl, ?_⟩
                  replace HO_172000 := Aside0.mk (Kd.R_below (R_ HO_172000.out) hb)
                  replace BK169 := Aside0.mk (blk_below (g := gb169) (o := .cells #[.slice (some ad172) l0_0.length c0_0, .slice A0_1 l0_1.length c0_1, .slice A0_2 l0_2.length c0_2] 26 (0, 0)) (B_ BK169.out) hb)
                  replace BK170 := Aside0.mk (blk_below (g := gb170) (o := .cells #[.slice none 0 0, .slice none 0 0, .slice none 0 0] 26 (0, 0)) (B_ BK170.out) hb)
                  replace BK171 := Aside0.mk (blk_below (g := gb171) (o := .cells #[u172000, .slice none 0 0, .slice none 0 0] 26 (0, 0)) (B_ BK171.out) hb)
                  replace HB := Aside0.mk (below_step (L_ HB.out) hb)
                  (try clear hb)
                  (try clear hb2)
                  (try clear hk)
                  (try clear hi)
                  refine hK.out _ _ ⟨(blk_cell BK171.out 0).trans rfl, (blk_cell BK171.out 1).trans rfl, (blk_cell BK171.out 2).trans rfl, (blk_cell BK169.out 0).trans rfl, (blk_cell BK169.out 1).trans rfl, (blk_cell BK169.out 2).trans rfl, ((HB.out.cell (World.block_lt_of_cell? w _ hw172_0)).trans hw172_0), ((HB.out.cell (World.block_lt_of_cell? w _ hw172_1)).trans hw172_1), ((HB.out.cell (World.block_lt_of_cell? w _ hw174_0)).trans hw174_0), ((HB.out.cell (World.block_lt_of_cell? w _ hw174_1)).trans hw174_1)⟩ (fun hHeld => ?_)
                  clear hK K
                  refine norm_ (a' := ?_) ?_ ?_; rotate_left; (show Act.put _ (some 32) _ = _; simp only [Act.put, List.setIfInBounds_toArray, List.set_cons_zero, List.set_cons_succ, i64_w, i32_w]; rfl)
                  refine pure_ (i := 16) (N := some 33) (v := ?_) (a' := ?_) #[true, true, true, true, true, true, true, true, true, true, true, true, true, true, true, true, true, false, false, false, false] rfl rfl (any_of HT_.out (by kernel_rfl)) (fun _ _ _ h => h) (Or.inl ⟨by rfl, ?_⟩) ?_ ?_; rotate_left; (intro w'; go_simp; with_reducible rfl); rotate_left; (simp only [Act.put, List.setIfInBounds_toArray, List.set_cons_zero, List.set_cons_succ, i64_w, i32_w]; rfl)
                  refine one_ (i := 17) (N := some 34) #[true, true, true, true, true, true, true, true, true, true, true, true, true, true, true, true, true, true, false, false, false] rfl rfl (one_of HT_.out (by kernel_rfl)) (by decide) (fun K hK => ?_)
                  refine value_ (w1 := ?_) (v := ?_) (by rfl) rfl ?_ ?_
                  rotate_left 2
                  · go_simp
                    constructor
                    · rfl
                    · rfl
                  refine hK.out _ _ ⟨(blk_cell (blk_alloc BK171.out _) 0).trans rfl, (blk_cell (blk_alloc BK171.out _) 1).trans rfl, (blk_cell (blk_alloc BK171.out _) 2).trans rfl, (blk_cell (blk_alloc BK169.out _) 0).trans rfl, (blk_cell (blk_alloc BK169.out _) 1).trans rfl, (blk_cell (blk_alloc BK169.out _) 2).trans rfl, (World.cell?_alloc_lt _ _ _ (World.block_lt_of_cell? _ _ (((HB.out.cell (World.block_lt_of_cell? w _ hw172_0)).trans hw172_0)))).trans (((HB.out.cell (World.block_lt_of_cell? w _ hw172_0)).trans hw172_0)), (World.cell?_alloc_lt _ _ _ (World.block_lt_of_cell? _ _ (((HB.out.cell (World.block_lt_of_cell? w _ hw172_1)).trans hw172_1)))).trans (((HB.out.cell (World.block_lt_of_cell? w _ hw172_1)).trans hw172_1)), (World.cell?_alloc_lt _ _ _ (World.block_lt_of_cell? _ _ (((HB.out.cell (World.block_lt_of_cell? w _ hw174_0)).trans hw174_0)))).trans (((HB.out.cell (World.block_lt_of_cell? w _ hw174_0)).trans hw174_0)), (World.cell?_alloc_lt _ _ _ (World.block_lt_of_cell? _ _ (((HB.out.cell (World.block_lt_of_cell? w _ hw174_1)).trans hw174_1)))).trans (((HB.out.cell (World.block_lt_of_cell? w _ hw174_1)).trans hw174_1))⟩ (fun hHeld => ?_)
                  clear hK K
                  refine norm_ (a' := ?_) ?_ ?_; rotate_left; (show Act.put _ (some 34) _ = _; simp only [Act.put, List.setIfInBounds_toArray, List.set_cons_zero, List.set_cons_succ, i64_w, i32_w]; rfl)
                  refine one_ (i := 18) (N := some 35) #[true, true, true, true, true, true, true, true, true, true, true, true, true, true, true, true, true, true, true, false, false] rfl rfl (one_of HT_.out (by kernel_rfl)) (by decide) (fun K hK => ?_)
                  refine Kd.R_append_step k39 (w0 := w) w.heap.size (by rfl) (.tmp 18) (.tmp 34) 22 39 (.agg #[(.string ⟨#[]⟩), (.string ⟨#[]⟩)]) 32 rfl Try.underlying22 info39 rfl (by decide) (by omega) u172000 x172000_1 (⟨t173, t175⟩ : S39) [.string t173, .string t175] (fun _ => True) (fun _ => False) rfl rfl ?aP (fun _ hk => hk.elim) ?aF ?aO ?aB ?aS ?aL ?_
                  (case aP => exact k39_mkM _ _ _ (⟨t173, t175⟩ : S39))
                  (case aB => exact (L_ HB.out))
                  (case aF => exact (fun _ _ => trivial))
                  (case aO => exact (R_ HO_172000.out))
                  (case aS => exact (below_size (L_ HB.out)))
                  (case aL => have := LMc18.out; omega)
                  intro v177 w22 ho hb hg hat
                  rw [← Ny176.out] at ho
                  have HO178 := Aside0.mk (ho)
                  replace BK169 := Aside0.mk (blk_grown (g := gb169) (o := .cells #[.slice (some ad172) l0_0.length c0_0, .slice A0_1 l0_1.length c0_1, .slice A0_2 l0_2.length c0_2] 26 (0, 0)) (B_ BK169.out) hg (Kd.R_ne HO_172000.out BK169.out (by decide)))
                  replace BK170 := Aside0.mk (blk_grown (g := gb170) (o := .cells #[.slice none 0 0, .slice none 0 0, .slice none 0 0] 26 (0, 0)) (B_ BK170.out) hg (Kd.R_ne HO_172000.out BK170.out (by decide)))
                  replace BK171 := Aside0.mk (blk_grown (g := gb171) (o := .cells #[u172000, .slice none 0 0, .slice none 0 0] 26 (0, 0)) (B_ BK171.out) hg (Kd.R_ne HO_172000.out BK171.out (by decide)))
                  replace HB := Aside0.mk (hb)
                  clear HO_172000
                  clear ho hb hg hat
                  obtain ⟨Ao23, co23, eo23⟩ := Kd.R_slice HO178.out
                  (first | subst eo23 | (injection eo23 with f1_ f2_ f3_; have f4_ := f1_.symm; have f5_ := f3_.symm; clear f1_ f2_ f3_; subst f4_; subst f5_))
                  refine hK.out _ _ ⟨(blk_cell BK171.out 0).trans rfl, (blk_cell BK171.out 1).trans rfl, (blk_cell BK171.out 2).trans rfl, (blk_cell BK169.out 0).trans rfl, (blk_cell BK169.out 1).trans rfl, (blk_cell BK169.out 2).trans rfl, ((HB.out.cell (World.block_lt_of_cell? w _ hw172_0)).trans hw172_0), ((HB.out.cell (World.block_lt_of_cell? w _ hw172_1)).trans hw172_1), ((HB.out.cell (World.block_lt_of_cell? w _ hw174_0)).trans hw174_0), ((HB.out.cell (World.block_lt_of_cell? w _ hw174_1)).trans hw174_1)⟩ (fun hHeld => ?_)
                  clear hK K
                  refine norm_ (a' := ?_) ?_ ?_; rotate_left; (show Act.put _ (some 35) _ = _; simp only [Act.put, List.setIfInBounds_toArray, List.set_cons_zero, List.set_cons_succ, i64_w, i32_w]; rfl)
                  refine pure_ (i := 19) (N := some 36) (v := ?_) (a' := ?_) #[true, true, true, true, true, true, true, true, true, true, true, true, true, true, true, true, true, true, true, true, false] rfl rfl (any_of HT_.out (by kernel_rfl)) (fun _ _ _ h => h) (Or.inl ⟨by rfl, ?_⟩) ?_ ?_; rotate_left; (intro w'; go_simp; with_reducible rfl); rotate_left; (simp only [Act.put, List.setIfInBounds_toArray, List.set_cons_zero, List.set_cons_succ, i64_w, i32_w]; rfl)
                  refine last_ (i := 20) (N := none) #[true, true, true, true, true, true, true, true, true, true, true, true, true, true, true, true, true, true, true, true, true] rfl rfl (one_of HT_.out (by kernel_rfl)) (by decide) (fun K hK => ?_)
                  have hs24 : w22.cell? ⟨gb171, 0, none⟩ = some (u172000) := (blk_cell BK171.out 0).trans rfl
                  have hfs24 := blk_frozen BK171.out 0
                  have hns24_0 := NB169_171.out
                  have hns24_1 := NB170_171.out
                  have hms24_0 := NB171_169.out
                  have hms24_1 := NB171_170.out
                  refine skip_ (w1 := ?_) (by rfl) rfl ?_ ?_
                  rotate_left
                  · go_simp
                    rfl
                  refine hK.out _ _ ?_
                  clear hK K
                  refine done_ (done_of HT_.out (by kernel_rfl)) ?_
                  try go_wp2
                  go_roundg kj4
                  case measure => have := HK1.out; have := HJ4.out; omega
                  case rel => exact ⟨(wrap64 (x4_1 + 1)), (y176), (.slice Ao23 y176.length co23), (by first | rfl | (simp; done) | (simp [*]; done)), H', ⟨by have := HK1.out; have := HJ4.out; omega⟩, ⟨by (with_reducible repeat (first | apply Kd.R_alloc | apply Kd.R_drewN | apply Kd.R_drew)); exact Kd.R_mono (Kd.R_far (p := ⟨gb171, 0, none⟩) (Kd.R_types HO178.out BK171.out (by decide)) (fun _ hk => hk.2) (.slice Ao23 y176.length co23)) (fun _ hk => trivial)⟩, ⟨by (with_reducible repeat (first | refine blk_drewN ?_ _ | refine blk_drew ?_ | refine blk_alloc ?_ _)); refine blk_far ?_ NB169_171.out _; (with_reducible repeat (first | refine blk_drewN ?_ _ | refine blk_drew ?_ | refine blk_alloc ?_ _)); exact BK169.out⟩, ⟨by (with_reducible repeat (first | refine blk_drewN ?_ _ | refine blk_drew ?_ | refine blk_alloc ?_ _)); refine blk_far ?_ NB170_171.out _; (with_reducible repeat (first | refine blk_drewN ?_ _ | refine blk_drew ?_ | refine blk_alloc ?_ _)); exact BK170.out⟩, ⟨by (with_reducible repeat (first | refine blk_drewN ?_ _ | refine blk_drew ?_ | refine blk_alloc ?_ _)); refine blk_put (cs := #[u172000, .slice none 0 0, .slice none 0 0]) ?_ 0 _ rfl; (with_reducible repeat (first | refine blk_drewN ?_ _ | refine blk_drew ?_ | refine blk_alloc ?_ _)); exact BK171.out⟩, ⟨by repeat (first | (with_reducible first | exact HB.out | apply below_alloc | apply pw_below_drewN | apply below_drew1 | refine below_set ?_ GE169.out | refine below_set ?_ GE170.out | refine below_set ?_ GE171.out) | exact HB.out)⟩⟩
                · rw [if_neg c18] at H
                  exact absurd H (by simp)
              · rw [if_neg c15] at H
                exact absurd H (by simp)
            · rw [if_neg c14] at H
              exact absurd H (by simp)
          · replace c13 := Bool.eq_false_iff.mpr c13
            subst c13
            have H1 : (bazaarlaw06_cut.l1 kj4 0 l0_0 l0_1 l0_2 x172000_1 ([] : List ByteArray)) = some (r1, r2, r3) := by rw [if_neg (show ¬ (false = true) by decide)] at H; exact H
            clear H
            have H := H1
            clear H1
            have H' := Aside0.mk H
            clear H
            go_wp2
            go_loopg [5] kj4 (fun kq v5 w' => ∃ (x5_3 : Int) (x172001_3 : List ByteArray) (u172001 : Value), v5 = .int .i64 x5_3 ∧ Aside0 (bazaarlaw06_cut.l1 kq x5_3 l0_0 l0_1 l0_2 x172000_1 x172001_3 = some (r1, r2, r3)) ∧ Aside0 (kq ≤ kj4) ∧ Aside0 (Kd.R k39 39 w' w.heap.size (fun _ => True) u172000 x172000_1) ∧ Aside0 (Kd.R Kd.string 9 w' w.heap.size (fun _ => True) u172001 x172001_3) ∧ Aside0 (w'.heap[gb169]? = some (.cells #[(.slice A0_0 l0_0.length c0_0), (.slice A0_1 l0_1.length c0_1), (.slice A0_2 l0_2.length c0_2)] 26 (0, 0))) ∧ Aside0 (w'.heap[gb170]? = some (.cells #[(.slice none 0 0), (.slice none 0 0), (.slice none 0 0)] 26 (0, 0))) ∧ Aside0 (w'.heap[gb171]? = some (.cells #[u172000, u172001, (.slice none 0 0)] 26 (0, 0))) ∧ Aside0 (Below w.heap.size w w'))
            case atStart => exact ⟨(0), (([] : List ByteArray)), (.slice none 0 0), (by first | rfl | (simp; done) | (simp [*]; done)), H', ⟨Nat.le_refl _⟩, ⟨by (with_reducible repeat (first | apply Kd.R_alloc | apply Kd.R_drewN | apply Kd.R_drew)); exact HO_172000.out⟩, ⟨by first | exact Kd.R_nil _ _ _ _ _ | exact Kd.N_nil _ _ _ _ _ | exact Kd.V_nil _ _ _ _ _ | exact Kd.Q_nil _ _ _ _ _ | exact Kd.S_nil _ _ _ _ _⟩, ⟨by (with_reducible repeat (first | refine blk_drewN ?_ _ | refine blk_drew ?_ | refine blk_alloc ?_ _)); exact BK169.out⟩, ⟨by (with_reducible repeat (first | refine blk_drewN ?_ _ | refine blk_drew ?_ | refine blk_alloc ?_ _)); exact BK170.out⟩, ⟨by (with_reducible repeat (first | refine blk_drewN ?_ _ | refine blk_drew ?_ | refine blk_alloc ?_ _)); exact BK171.out⟩, ⟨by repeat (first | (with_reducible first | exact HB.out | apply below_alloc | apply pw_below_drewN | apply below_drew1 | refine below_set ?_ GE169.out | refine below_set ?_ GE170.out | refine below_set ?_ GE171.out) | exact HB.out)⟩⟩
            case round =>
              clear H'
              try clear c1
              try clear p1
              try clear q1
              try clear hx1
              try clear p2
              try clear c6
              try clear c6b0
              try clear p6
              try clear c7
              try clear c8
              try clear c10
              try clear c11
              try clear c13
              try clear c14
              try clear c14b0
              try clear c15
              try clear c15b0
              try clear p17
              try clear q17
              try clear hx17
              try clear c18
              try clear c19
              try clear hcz12_0
              try clear hcz12_1
              try clear hcz12_2
              try clear hcz9_0
              try clear hcz9_1
              try clear hcz9_2
              try clear hfz12_0
              try clear hfz12_1
              try clear hfz12_2
              try clear hfz9_0
              try clear hfz9_1
              try clear hfz9_2
              try clear hx172_0
              try clear hx172_1
              try clear hx174_0
              try clear hx174_1
              try clear p172
              try clear p174
              try clear p2
              try clear q172
              try clear q174
              obtain ⟨x5_3, x172001_3, u172001, rfl, HA, HK3, HO_172000, HO_172001, BK169, BK170, BK171, HB⟩ := hrel
              cases gk with
              | zero => exact absurd HA.out (by simp [bazaarlaw06_cut.l1])
              | succ k3 =>
                have H := HA.out
                clear HA
                simp only [bazaarlaw06_cut.l1] at H
                by_cases c25 : x5_3 < (l0_1.length : Int)
                · rw [if_pos c25] at H
                  have c25b0 : decide (x5_3 < (l0_1.length : Int)) = true := decide_eq_true c25
                  clear c25
                  by_cases c26 : x5_3 < 260
                  · rw [if_pos c26] at H
                    have c26b0 : decide (x5_3 < 260) = true := decide_eq_true c26
                    clear c26
                    by_cases c27 : 0 ≤ x5_3
                    · rw [if_pos c27] at H
                      have c27b0 : decide (0 ≤ x5_3) = true := decide_eq_true c27
                      clear c27
                      replace H := Option.bind_eq_some_iff.mp H
                      obtain ⟨t180, A280, H⟩ := H
                      replace H : (if x172001_3.length < 8796093022208 then (bazaarlaw06_cut.l1 k3 (wrap64 (x5_3 + 1)) l0_0 l0_1 l0_2 x172000_1 (x172001_3 ++ [t180])) else (none)) = some (r1, r2, r3) := H
                      have A28 := Aside0.mk A280
                      clear A280
                      by_cases c29 : x172001_3.length < 8796093022208
                      · rw [if_pos c29] at H
                        have LMc29 := Aside0.mk c29
                        clear c29
                        obtain ⟨y181, hy181⟩ : ∃ y_ : List ByteArray, y_ = (x172001_3 ++ [t180]) := ⟨_, rfl⟩
                        replace H : (bazaarlaw06_cut.l1 k3 (wrap64 (x5_3 + 1)) l0_0 l0_1 l0_2 x172000_1 y181) = some (r1, r2, r3) := by first | (rw [hy181]; with_reducible exact H) | (have H2_ := (Option.bind_some _ _).symm.trans H; rw [hy181]; with_reducible exact H2_) | (have H2_ := (Option.bind_some _ _).symm.trans H; with_reducible exact H2_) | with_reducible exact H | (rw [hy181]; exact H) | exact H
                        have Ny181 := Aside0.mk hy181
                        clear hy181
                        have H' := Aside0.mk H
                        clear H
                        have hnb30 := NB169_170.out
                        have hnc30 := NB170_169.out
                        have hnb31 := NB169_171.out
                        have hnc31 := NB171_169.out
                        have hcz32_0 : wr.cell? ⟨gb169, 0, none⟩ = some (.slice A0_0 l0_0.length c0_0) := (blk_cell BK169.out 0).trans rfl
                        have hcz32_1 : wr.cell? ⟨gb169, 1, none⟩ = some (.slice A0_1 l0_1.length c0_1) := (blk_cell BK169.out 1).trans rfl
                        have hcz32_2 : wr.cell? ⟨gb169, 2, none⟩ = some (.slice A0_2 l0_2.length c0_2) := (blk_cell BK169.out 2).trans rfl
                        have hfz32_0 := blk_frozen BK169.out 0
                        have hfz32_1 := blk_frozen BK169.out 1
                        have hfz32_2 := blk_frozen BK169.out 2
                        try go_wp2
                        replace HO_172000 := Aside0.mk (Kd.R_drew HO_172000.out)
                        replace HO_172001 := Aside0.mk (Kd.R_drew HO_172001.out)
                        replace BK169 := Aside0.mk (blk_drew BK169.out)
                        replace BK170 := Aside0.mk (blk_drew BK170.out)
                        replace BK171 := Aside0.mk (blk_drew BK171.out)
                        replace HB := Aside0.mk (below_drew1 HB.out)
                        have p179 : 0 ≤ (x5_3 : Int) := of_decide_eq_true (by first | (with_reducible assumption) | assumption)
                        have q179 : x5_3 < (l0_1.length : Int) := of_decide_eq_true (by first | (with_reducible assumption) | assumption)
                        obtain ⟨ad179, e179, hx179_0⟩ := Kd.at_string HR0_1.out x5_3 p179 q179
                        have hw179_0 := hx179_0
                        cases e179
                        replace hx179_0 := (HB.out.cell (World.block_lt_of_cell? w _ hx179_0)).trans hx179_0
                        replace p179 := eq_true p179
                        replace q179 := eq_true q179
                        refine start_ (n := 12) (S := fun w' => w'.cell? ⟨gb171, 0, none⟩ = some (u172000) ∧ w'.cell? ⟨gb171, 1, none⟩ = some (u172001) ∧ w'.cell? ⟨gb171, 2, none⟩ = some (.slice none 0 0) ∧ w'.cell? ⟨gb169, 0, none⟩ = some (.slice A0_0 l0_0.length c0_0) ∧ w'.cell? ⟨gb169, 1, none⟩ = some (.slice (some ad179) l0_1.length c0_1) ∧ w'.cell? ⟨gb169, 2, none⟩ = some (.slice A0_2 l0_2.length c0_2) ∧ w'.cell? (ad179.add (x5_3).toNat) = some (.string (rdOf ByteArray.empty l0_1 x5_3))) (ds := [11]) #[false, false, false, false, false, false, false, false, false, false, false, false] (by kernel_rfl) rfl rfl ⟨(blk_cell BK171.out 0).trans rfl, (blk_cell BK171.out 1).trans rfl, (blk_cell BK171.out 2).trans rfl, (blk_cell BK169.out 0).trans rfl, (blk_cell BK169.out 1).trans rfl, (blk_cell BK169.out 2).trans rfl, ((HB.out.cell (World.block_lt_of_cell? w _ hw179_0)).trans hw179_0)⟩ (fun hHeld => ?_); refine with_tabW bazaarlaw06_cut.tab9 bazaarlaw06_cut.bits9 (fun HT_ HW_ => ?_)
                        generalize wr.drew = w33 at HO_172000 HO_172001 BK169 BK170 BK171 HB hx179_0 hHeld ⊢
                        refine pure_ (i := 0) (N := some 48) (v := ?_) (a' := ?_) #[true, false, false, false, false, false, false, false, false, false, false, false] rfl rfl (any_of HT_.out (by kernel_rfl)) (fun _ _ _ h => h) (Or.inl ⟨by rfl, ?_⟩) ?_ ?_; rotate_left; (intro w'; go_simp; with_reducible rfl); rotate_left; (simp only [Act.put, List.setIfInBounds_toArray, List.set_cons_zero, List.set_cons_succ, i64_w, i32_w]; rfl)
                        refine pure_ (i := 2) (N := some 50) (v := ?_) (a' := ?_) #[true, false, true, false, false, false, false, false, false, false, false, false] rfl rfl (any_of HT_.out (by kernel_rfl)) (fun _ _ _ h => h) (Or.inl ⟨by rfl, ?_⟩) ?_ ?_; rotate_left; (intro w'; go_simp; with_reducible rfl); rotate_left; (simp only [Act.put, List.setIfInBounds_toArray, List.set_cons_zero, List.set_cons_succ, i64_w, i32_w]; rfl)
                        refine pure_ (i := 4) (N := some 52) (v := ?_) (a' := ?_) #[true, false, true, false, true, false, false, false, false, false, false, false] rfl rfl (any_of HT_.out (by kernel_rfl)) (fun _ _ _ h => h) (Or.inl ⟨by rfl, ?_⟩) ?_ ?_; rotate_left; (intro w'; go_simp; with_reducible rfl); rotate_left; (simp only [Act.put, List.setIfInBounds_toArray, List.set_cons_zero, List.set_cons_succ, i64_w, i32_w]; rfl)
                        refine take_ (i := 1) (N := some 49) (v := ?_) (a' := ?_) #[true, true, true, false, true, false, false, false, false, false, false, false] rfl rfl (take_ofW HT_.out HW_.out (by kernel_rfl)) (fun _ _ _ h => h) (Or.inl ⟨by rfl, ?_⟩) hHeld ?_ ?_
                        rotate_left
                        · rintro w' ⟨s0, s1, s2, s3, s4, s5, s6⟩
                          go_simp
                          with_reducible rfl
                        rotate_left
                        · simp only [Act.put, List.setIfInBounds_toArray, List.set_cons_zero, List.set_cons_succ, i64_w, i32_w]
                          rfl
                        refine take_ (i := 3) (N := some 51) (v := ?_) (a' := ?_) #[true, true, true, true, true, false, false, false, false, false, false, false] rfl rfl (take_ofW HT_.out HW_.out (by kernel_rfl)) (fun _ _ _ h => h) (Or.inl ⟨by rfl, ?_⟩) hHeld ?_ ?_
                        rotate_left
                        · rintro w' ⟨s0, s1, s2, s3, s4, s5, s6⟩
                          go_simp
                          with_reducible rfl
                        rotate_left
                        · simp only [Act.put, List.setIfInBounds_toArray, List.set_cons_zero, List.set_cons_succ, i64_w, i32_w]
                          rfl
                        refine pure_ (i := 5) (N := some 53) (v := ?_) (a' := ?_) #[true, true, true, true, true, true, false, false, false, false, false, false] rfl rfl (any_of HT_.out (by kernel_rfl)) (fun _ _ _ h => h) (Or.inl ⟨by rfl, ?_⟩) ?_ ?_; rotate_left; (intro w'; go_simp; with_reducible rfl); rotate_left; (simp only [Act.put, List.setIfInBounds_toArray, List.set_cons_zero, List.set_cons_succ, i64_w, i32_w]; rfl)
                        refine take_ (i := 6) (N := some 54) (v := ?_) (a' := ?_) #[true, true, true, true, true, true, true, false, false, false, false, false] rfl rfl (take_ofW HT_.out HW_.out (by kernel_rfl)) (fun _ _ _ h => h) (Or.inl ⟨by rfl, ?_⟩) hHeld ?_ ?_
                        rotate_left
                        · rintro w' ⟨s0, s1, s2, s3, s4, s5, s6⟩
                          go_simp
                          with_reducible rfl
                        rotate_left
                        · simp only [Act.put, List.setIfInBounds_toArray, List.set_cons_zero, List.set_cons_succ, i64_w, i32_w]
                          rfl
                        refine one_ (i := 7) (N := some 55) #[true, true, true, true, true, true, true, true, false, false, false, false] rfl rfl (one_of HT_.out (by kernel_rfl)) (by decide) (fun K hK => ?_)
                        refine goes_ Try.func19 (by kernel_rfl) rfl #[.string (rdOf ByteArray.empty l0_1 x5_3)] (by rfl) rfl rfl (by (try simp only [List.map_toArray, List.map_cons, List.map_nil]); first | done | rfl | (simp only [List.length_drop, List.length_take]; rfl)) ?_
                        with_reducible refine (bazaarlaw06_text.calls (rdOf ByteArray.empty l0_1 x5_3) t180 _ A28.out).mono ?_
                        rintro e w34 ⟨rfl, hb⟩
                        refine ⟨_, rfl, ?_⟩
                        replace HO_172000 := Aside0.mk (Kd.R_below (R_ HO_172000.out) hb)
                        replace HO_172001 := Aside0.mk (Kd.R_below (R_ HO_172001.out) hb)
                        replace BK169 := Aside0.mk (blk_below (g := gb169) (o := .cells #[.slice A0_0 l0_0.length c0_0, .slice (some ad179) l0_1.length c0_1, .slice A0_2 l0_2.length c0_2] 26 (0, 0)) (B_ BK169.out) hb)
                        replace BK170 := Aside0.mk (blk_below (g := gb170) (o := .cells #[.slice none 0 0, .slice none 0 0, .slice none 0 0] 26 (0, 0)) (B_ BK170.out) hb)
                        replace BK171 := Aside0.mk (blk_below (g := gb171) (o := .cells #[u172000, u172001, .slice none 0 0] 26 (0, 0)) (B_ BK171.out) hb)
                        replace HB := Aside0.mk (below_step (L_ HB.out) hb)
                        (try clear hb)
                        (try clear hb2)
                        (try clear hk)
                        (try clear hi)
                        refine hK.out _ _ ⟨(blk_cell BK171.out 0).trans rfl, (blk_cell BK171.out 1).trans rfl, (blk_cell BK171.out 2).trans rfl, (blk_cell BK169.out 0).trans rfl, (blk_cell BK169.out 1).trans rfl, (blk_cell BK169.out 2).trans rfl, ((HB.out.cell (World.block_lt_of_cell? w _ hw179_0)).trans hw179_0)⟩ (fun hHeld => ?_)
                        clear hK K
                        refine norm_ (a' := ?_) ?_ ?_; rotate_left; (show Act.put _ (some 55) _ = _; simp only [Act.put, List.setIfInBounds_toArray, List.set_cons_zero, List.set_cons_succ, i64_w, i32_w]; rfl)
                        refine one_ (i := 8) (N := some 56) #[true, true, true, true, true, true, true, true, true, false, false, false] rfl rfl (one_of HT_.out (by kernel_rfl)) (by decide) (fun K hK => ?_)
                        refine value_ (w1 := ?_) (v := ?_) (by rfl) rfl ?_ ?_
                        rotate_left 2
                        · go_simp
                          constructor
                          · rfl
                          · rfl
                        refine hK.out _ _ ⟨(blk_cell (blk_alloc BK171.out _) 0).trans rfl, (blk_cell (blk_alloc BK171.out _) 1).trans rfl, (blk_cell (blk_alloc BK171.out _) 2).trans rfl, (blk_cell (blk_alloc BK169.out _) 0).trans rfl, (blk_cell (blk_alloc BK169.out _) 1).trans rfl, (blk_cell (blk_alloc BK169.out _) 2).trans rfl, (World.cell?_alloc_lt _ _ _ (World.block_lt_of_cell? _ _ (((HB.out.cell (World.block_lt_of_cell? w _ hw179_0)).trans hw179_0)))).trans (((HB.out.cell (World.block_lt_of_cell? w _ hw179_0)).trans hw179_0))⟩ (fun hHeld => ?_)
                        clear hK K
                        refine norm_ (a' := ?_) ?_ ?_; rotate_left; (show Act.put _ (some 56) _ = _; simp only [Act.put, List.setIfInBounds_toArray, List.set_cons_zero, List.set_cons_succ, i64_w, i32_w]; rfl)
                        refine one_ (i := 9) (N := some 57) #[true, true, true, true, true, true, true, true, true, true, false, false] rfl rfl (one_of HT_.out (by kernel_rfl)) (by decide) (fun K hK => ?_)
                        refine Kd.R_append_step Kd.string (w0 := w) w.heap.size (by rfl) (.tmp 49) (.tmp 56) 23 9 (.string ⟨#[]⟩) 16 rfl Try.underlying23 info9 rfl (by decide) (by omega) u172001 x172001_3 t180 [.string t180] (fun _ => True) (fun _ => False) rfl rfl ?aP (fun _ hk => hk.elim) ?aF ?aO ?aB ?aS ?aL ?_
                        (case aP => exact rfl)
                        (case aB => exact (L_ HB.out))
                        (case aF => exact (fun _ _ => trivial))
                        (case aO => exact (R_ HO_172001.out))
                        (case aS => exact (below_size (L_ HB.out)))
                        (case aL => have := LMc29.out; omega)
                        intro v182 w35 ho hb hg hat
                        rw [← Ny181.out] at ho
                        have HO183 := Aside0.mk (ho)
                        replace HO_172000 := Aside0.mk (Kd.R_over' (R_ HO_172000.out) (Kd.R_typed (R_ HO_172001.out)) (by decide) hg)
                        replace BK169 := Aside0.mk (blk_grown (g := gb169) (o := .cells #[.slice A0_0 l0_0.length c0_0, .slice (some ad179) l0_1.length c0_1, .slice A0_2 l0_2.length c0_2] 26 (0, 0)) (B_ BK169.out) hg (Kd.R_ne HO_172001.out BK169.out (by decide)))
                        replace BK170 := Aside0.mk (blk_grown (g := gb170) (o := .cells #[.slice none 0 0, .slice none 0 0, .slice none 0 0] 26 (0, 0)) (B_ BK170.out) hg (Kd.R_ne HO_172001.out BK170.out (by decide)))
                        replace BK171 := Aside0.mk (blk_grown (g := gb171) (o := .cells #[u172000, u172001, .slice none 0 0] 26 (0, 0)) (B_ BK171.out) hg (Kd.R_ne HO_172001.out BK171.out (by decide)))
                        replace HB := Aside0.mk (hb)
                        clear HO_172001
                        clear ho hb hg hat
                        obtain ⟨Ao36, co36, eo36⟩ := Kd.R_slice HO183.out
                        (first | subst eo36 | (injection eo36 with f1_ f2_ f3_; have f4_ := f1_.symm; have f5_ := f3_.symm; clear f1_ f2_ f3_; subst f4_; subst f5_))
                        refine hK.out _ _ ⟨(blk_cell BK171.out 0).trans rfl, (blk_cell BK171.out 1).trans rfl, (blk_cell BK171.out 2).trans rfl, (blk_cell BK169.out 0).trans rfl, (blk_cell BK169.out 1).trans rfl, (blk_cell BK169.out 2).trans rfl, ((HB.out.cell (World.block_lt_of_cell? w _ hw179_0)).trans hw179_0)⟩ (fun hHeld => ?_)
                        clear hK K
                        refine norm_ (a' := ?_) ?_ ?_; rotate_left; (show Act.put _ (some 57) _ = _; simp only [Act.put, List.setIfInBounds_toArray, List.set_cons_zero, List.set_cons_succ, i64_w, i32_w]; rfl)
                        refine pure_ (i := 10) (N := some 58) (v := ?_) (a' := ?_) #[true, true, true, true, true, true, true, true, true, true, true, false] rfl rfl (any_of HT_.out (by kernel_rfl)) (fun _ _ _ h => h) (Or.inl ⟨by rfl, ?_⟩) ?_ ?_; rotate_left; (intro w'; go_simp; with_reducible rfl); rotate_left; (simp only [Act.put, List.setIfInBounds_toArray, List.set_cons_zero, List.set_cons_succ, i64_w, i32_w]; rfl)
                        refine last_ (i := 11) (N := none) #[true, true, true, true, true, true, true, true, true, true, true, true] rfl rfl (one_of HT_.out (by kernel_rfl)) (by decide) (fun K hK => ?_)
                        have hs37 : w35.cell? ⟨gb171, 1, none⟩ = some (u172001) := (blk_cell BK171.out 1).trans rfl
                        have hfs37 := blk_frozen BK171.out 1
                        have hns37_0 := NB169_171.out
                        have hns37_1 := NB170_171.out
                        have hms37_0 := NB171_169.out
                        have hms37_1 := NB171_170.out
                        refine skip_ (w1 := ?_) (by rfl) rfl ?_ ?_
                        rotate_left
                        · go_simp
                          rfl
                        refine hK.out _ _ ?_
                        clear hK K
                        refine done_ (done_of HT_.out (by kernel_rfl)) ?_
                        try go_wp2
                        go_roundg k3
                        case measure => have := HK1.out; have := HJ4.out; have := HK3.out; omega
                        case rel => exact ⟨(wrap64 (x5_3 + 1)), (y181), (.slice Ao36 y181.length co36), (by first | rfl | (simp; done) | (simp [*]; done)), H', ⟨by have := HK1.out; have := HJ4.out; have := HK3.out; omega⟩, ⟨by (with_reducible repeat (first | apply Kd.R_alloc | apply Kd.R_drewN | apply Kd.R_drew)); exact Kd.R_mono (Kd.R_far (p := ⟨gb171, 1, none⟩) (Kd.R_types HO_172000.out BK171.out (by decide)) (fun _ hk => hk.2) (.slice Ao36 y181.length co36)) (fun _ hk => trivial)⟩, ⟨by (with_reducible repeat (first | apply Kd.R_alloc | apply Kd.R_drewN | apply Kd.R_drew)); exact Kd.R_mono (Kd.R_far (p := ⟨gb171, 1, none⟩) (Kd.R_types HO183.out BK171.out (by decide)) (fun _ hk => hk.2) (.slice Ao36 y181.length co36)) (fun _ hk => trivial)⟩, ⟨by (with_reducible repeat (first | refine blk_drewN ?_ _ | refine blk_drew ?_ | refine blk_alloc ?_ _)); refine blk_far ?_ NB169_171.out _; (with_reducible repeat (first | refine blk_drewN ?_ _ | refine blk_drew ?_ | refine blk_alloc ?_ _)); exact BK169.out⟩, ⟨by (with_reducible repeat (first | refine blk_drewN ?_ _ | refine blk_drew ?_ | refine blk_alloc ?_ _)); refine blk_far ?_ NB170_171.out _; (with_reducible repeat (first | refine blk_drewN ?_ _ | refine blk_drew ?_ | refine blk_alloc ?_ _)); exact BK170.out⟩, ⟨by (with_reducible repeat (first | refine blk_drewN ?_ _ | refine blk_drew ?_ | refine blk_alloc ?_ _)); refine blk_put (cs := #[u172000, u172001, .slice none 0 0]) ?_ 1 _ rfl; (with_reducible repeat (first | refine blk_drewN ?_ _ | refine blk_drew ?_ | refine blk_alloc ?_ _)); exact BK171.out⟩, ⟨by repeat (first | (with_reducible first | exact HB.out | apply below_alloc | apply pw_below_drewN | apply below_drew1 | refine below_set ?_ GE169.out | refine below_set ?_ GE170.out | refine below_set ?_ GE171.out) | exact HB.out)⟩⟩
                      · rw [if_neg c29] at H
                        exact absurd H (by simp)
                    · rw [if_neg c27] at H
                      exact absurd H (by simp)
                  · rw [if_neg c26] at H
                    have c26b0 : decide (x5_3 < 260) = false := decide_eq_false c26
                    clear c26
                    obtain ⟨ji38, hji38⟩ : ∃ j_ : Int, (mn (l0_2.length : Int) 260) = j_ := ⟨_, rfl⟩
                    replace H : (if 0 ≤ (ji38) then (if (ji38) ≤ (l0_2.length : Int) then (if ([] : List Int).length + (l0_2.take ((ji38) : Int).toNat).length < 35184372088832 then (some (x172000_1, x172001_3, (([] : List Int) ++ (l0_2.take ((ji38) : Int).toNat)))) else (none)) else (none)) else (none)) = some (r1, r2, r3) := by first | (rw [hji38] at H; exact H) | (simp only [hji38] at H ⊢; exact H)
                    have hji38_ : (if 260 < (l0_2.length : Int) then 260 else (l0_2.length : Int)) = ji38 := hji38
                    by_cases c39 : 0 ≤ (ji38)
                    · rw [if_pos c39] at H
                      have c39b0 := eq_true c39
                      have c39b1 : decide (0 ≤ (ji38)) = true := decide_eq_true c39
                      clear c39
                      by_cases c40 : (ji38) ≤ (l0_2.length : Int)
                      · rw [if_pos c40] at H
                        have c40b0 := eq_true c40
                        have c40b1 : decide ((ji38) ≤ (l0_2.length : Int)) = true := decide_eq_true c40
                        clear c40
                        by_cases c41 : ([] : List Int).length + (l0_2.take ((ji38) : Int).toNat).length < 35184372088832
                        · rw [if_pos c41] at H
                          have LMc41 := Aside0.mk c41
                          clear c41
                          obtain ⟨y185, hy185⟩ : ∃ y_ : List Int, y_ = (([] : List Int) ++ (l0_2.take ((ji38) : Int).toNat)) := ⟨_, rfl⟩
                          replace H : (some (x172000_1, x172001_3, y185)) = some (r1, r2, r3) := by first | (rw [hy185]; with_reducible exact H) | (have H2_ := (Option.bind_some _ _).symm.trans H; rw [hy185]; with_reducible exact H2_) | (have H2_ := (Option.bind_some _ _).symm.trans H; with_reducible exact H2_) | with_reducible exact H | (rw [hy185]; exact H) | exact H
                          have Ny185 := Aside0.mk hy185
                          clear hy185
                          simp only [Option.some.injEq, Prod.mk.injEq] at H
                          obtain ⟨rfl, rfl, rfl⟩ := H
                          have hnb42 := NB169_170.out
                          have hnc42 := NB170_169.out
                          have hnb43 := NB169_171.out
                          have hnc43 := NB171_169.out
                          have hcz44_0 : wr.cell? ⟨gb169, 0, none⟩ = some (.slice A0_0 l0_0.length c0_0) := (blk_cell BK169.out 0).trans rfl
                          have hcz44_1 : wr.cell? ⟨gb169, 1, none⟩ = some (.slice A0_1 l0_1.length c0_1) := (blk_cell BK169.out 1).trans rfl
                          have hcz44_2 : wr.cell? ⟨gb169, 2, none⟩ = some (.slice A0_2 l0_2.length c0_2) := (blk_cell BK169.out 2).trans rfl
                          have hfz44_0 := blk_frozen BK169.out 0
                          have hfz44_1 := blk_frozen BK169.out 1
                          have hfz44_2 := blk_frozen BK169.out 2
                          try go_wp2
                          replace HO_172000 := Aside0.mk (Kd.R_drew HO_172000.out)
                          replace HO_172001 := Aside0.mk (Kd.R_drew HO_172001.out)
                          replace BK169 := Aside0.mk (blk_drew BK169.out)
                          replace BK170 := Aside0.mk (blk_drew BK170.out)
                          replace BK171 := Aside0.mk (blk_drew BK171.out)
                          replace HB := Aside0.mk (below_drew1 HB.out)
                          obtain ⟨i046, hi046, _, hsz46, _⟩ := info_parts info65
                          obtain ⟨hcut46, hA46, hC46⟩ := print_take_of (P := Try.prog) (Value.int .u32) 0 24 65 .i64 Try.underlying24 hi046 hsz46 A0_2 c0_2 l0_2 (ji38) (of_decide_eq_true (by first | (with_reducible assumption) | assumption)) (of_decide_eq_true (by first | (with_reducible assumption) | assumption)) HC0_2.out
                          have HR184 := Aside0.mk (Kd.C_of_reads (h1 := fun _ => rfl) (hA46 _ (Kd.reads_of_C HR0_2.out)))
                          have HC184 := Aside0.mk hC46
                          clear hA46 hC46 hi046 hsz46
                          refine start_ (n := 12) (S := fun w' => w'.cell? ⟨gb171, 0, none⟩ = some (u172000) ∧ w'.cell? ⟨gb171, 1, none⟩ = some (u172001) ∧ w'.cell? ⟨gb171, 2, none⟩ = some (.slice none 0 0) ∧ w'.cell? ⟨gb169, 0, none⟩ = some (.slice A0_0 l0_0.length c0_0) ∧ w'.cell? ⟨gb169, 1, none⟩ = some (.slice A0_1 l0_1.length c0_1) ∧ w'.cell? ⟨gb169, 2, none⟩ = some (.slice A0_2 l0_2.length c0_2)) (ds := [11]) #[false, false, false, false, false, false, false, false, false, false, false, false] (by kernel_rfl) rfl rfl ⟨(blk_cell BK171.out 0).trans rfl, (blk_cell BK171.out 1).trans rfl, (blk_cell BK171.out 2).trans rfl, (blk_cell BK169.out 0).trans rfl, (blk_cell BK169.out 1).trans rfl, (blk_cell BK169.out 2).trans rfl⟩ (fun hHeld => ?_); refine with_tabW bazaarlaw06_cut.tab10 bazaarlaw06_cut.bits10 (fun HT_ HW_ => ?_)
                          generalize wr.drew = w45 at HO_172000 HO_172001 BK169 BK170 BK171 HB HR184 hHeld ⊢
                          refine pure_ (i := 0) (N := some 59) (v := ?_) (a' := ?_) #[true, false, false, false, false, false, false, false, false, false, false, false] rfl rfl (any_of HT_.out (by kernel_rfl)) (fun _ _ _ h => h) (Or.inl ⟨by rfl, ?_⟩) ?_ ?_; rotate_left; (intro w'; go_simp; with_reducible rfl); rotate_left; (simp only [Act.put, List.setIfInBounds_toArray, List.set_cons_zero, List.set_cons_succ, i64_w, i32_w]; rfl)
                          refine pure_ (i := 2) (N := some 61) (v := ?_) (a' := ?_) #[true, false, true, false, false, false, false, false, false, false, false, false] rfl rfl (any_of HT_.out (by kernel_rfl)) (fun _ _ _ h => h) (Or.inl ⟨by rfl, ?_⟩) ?_ ?_; rotate_left; (intro w'; go_simp; with_reducible rfl); rotate_left; (simp only [Act.put, List.setIfInBounds_toArray, List.set_cons_zero, List.set_cons_succ, i64_w, i32_w]; rfl)
                          refine pure_ (i := 4) (N := some 63) (v := ?_) (a' := ?_) #[true, false, true, false, true, false, false, false, false, false, false, false] rfl rfl (any_of HT_.out (by kernel_rfl)) (fun _ _ _ h => h) (Or.inl ⟨by rfl, ?_⟩) ?_ ?_; rotate_left; (intro w'; go_simp; with_reducible rfl); rotate_left; (simp only [Act.put, List.setIfInBounds_toArray, List.set_cons_zero, List.set_cons_succ, i64_w, i32_w]; rfl)
                          refine take_ (i := 1) (N := some 60) (v := ?_) (a' := ?_) #[true, true, true, false, true, false, false, false, false, false, false, false] rfl rfl (take_ofW HT_.out HW_.out (by kernel_rfl)) (fun _ _ _ h => h) (Or.inl ⟨by rfl, ?_⟩) hHeld ?_ ?_
                          rotate_left
                          · rintro w' ⟨s0, s1, s2, s3, s4, s5⟩
                            go_simp
                            with_reducible rfl
                          rotate_left
                          · simp only [Act.put, List.setIfInBounds_toArray, List.set_cons_zero, List.set_cons_succ, i64_w, i32_w]
                            rfl
                          refine take_ (i := 3) (N := some 62) (v := ?_) (a' := ?_) #[true, true, true, true, true, false, false, false, false, false, false, false] rfl rfl (take_ofW HT_.out HW_.out (by kernel_rfl)) (fun _ _ _ h => h) (Or.inl ⟨by rfl, ?_⟩) hHeld ?_ ?_
                          rotate_left
                          · rintro w' ⟨s0, s1, s2, s3, s4, s5⟩
                            go_simp
                            with_reducible rfl
                          rotate_left
                          · simp only [Act.put, List.setIfInBounds_toArray, List.set_cons_zero, List.set_cons_succ, i64_w, i32_w]
                            rfl
                          refine take_ (i := 5) (N := some 64) (v := ?_) (a' := ?_) #[true, true, true, true, true, true, false, false, false, false, false, false] rfl rfl (take_ofW HT_.out HW_.out (by kernel_rfl)) (fun _ _ _ h => h) (Or.inl ⟨by rfl, ?_⟩) hHeld ?_ ?_
                          rotate_left
                          · rintro w' ⟨s0, s1, s2, s3, s4, s5⟩
                            go_simp
                            with_reducible rfl
                          rotate_left
                          · simp only [Act.put, List.setIfInBounds_toArray, List.set_cons_zero, List.set_cons_succ, i64_w, i32_w]
                            rfl
                          refine pure_ (i := 6) (N := some 65) (v := ?_) (a' := ?_) #[true, true, true, true, true, true, true, false, false, false, false, false] rfl rfl (any_of HT_.out (by kernel_rfl)) (fun _ _ _ h => h) (Or.inl ⟨by rfl, ?_⟩) ?_ ?_; rotate_left; (intro w'; go_simp; with_reducible rfl); rotate_left; (simp only [Act.put, List.setIfInBounds_toArray, List.set_cons_zero, List.set_cons_succ, i64_w, i32_w]; rfl)
                          refine pure_ (i := 7) (N := some 66) (v := ?_) (a' := ?_) #[true, true, true, true, true, true, true, true, false, false, false, false] rfl rfl (any_of HT_.out (by kernel_rfl)) (fun _ _ _ h => h) (Or.inl ⟨by rfl, ?_⟩) ?_ ?_; rotate_left; (intro w'; go_simp; with_reducible rfl); rotate_left; (simp only [Act.put, List.setIfInBounds_toArray, List.set_cons_zero, List.set_cons_succ, i64_w, i32_w]; rfl)
                          refine pure_ (i := 8) (N := some 67) (v := ?_) (a' := ?_) #[true, true, true, true, true, true, true, true, true, false, false, false] rfl rfl (any_of HT_.out (by kernel_rfl)) (fun _ _ _ h => h) (Or.inl ⟨by rfl, ?_⟩) ?_ ?_; rotate_left; (intro w'; go_simp; with_reducible rfl); rotate_left; (simp only [Act.put, List.setIfInBounds_toArray, List.set_cons_zero, List.set_cons_succ, i64_w, i32_w]; rfl)
                          refine one_ (i := 9) (N := some 68) #[true, true, true, true, true, true, true, true, true, true, false, false] rfl rfl (one_of HT_.out (by kernel_rfl)) (by decide) (fun K hK => ?_)
                          refine Kd.R_append_rows_step (Kd.int .u32) (w0 := w) w.heap.size (by rfl) (.tmp 60) (.tmp 67) 24 65 (.int .u32 0) 4 rfl Try.underlying24 info65 rfl (by decide) (by omega) (.slice none 0 0) ([] : List Int) (l0_2.take ((ji38) : Int).toNat) _ _ _ (fun _ => True) (fun _ => False) rfl rfl ?aO ?aR (fun _ _ h => h) (fun _ h => h.elim) ?aF ?aB ?aS ?aL ?_
                          (case aR => first | ((conv => arg 5; rw [← show (l0_2.take ((ji38) : Int).toNat).length = (ji38).toNat from (by rw [List.length_take]; have h_ : ((ji38) : Int) ≤ (l0_2.length : Int) := of_decide_eq_true (by first | (with_reducible assumption) | assumption); omega)]); repeat (first | exact (Kd.C_below HR184.out HB.out) | (with_reducible refine Kd.C_alloc ?_ _) | (with_reducible refine Kd.C_drewN ?_ _) | (with_reducible refine Kd.C_drew ?_))) | (repeat (first | exact (Kd.C_below HR184.out HB.out) | (with_reducible refine Kd.C_alloc ?_ _) | (with_reducible refine Kd.C_drewN ?_ _) | (with_reducible refine Kd.C_drew ?_))))
                          (case aB => exact (L_ HB.out))
                          (case aF => exact (fun _ _ => trivial))
                          (case aO => exact ((Kd.R_nil _ _ _ _ (fun _ => True))))
                          (case aS => exact (below_size (L_ HB.out)))
                          (case aL => have := LMc41.out; have hlx_ := (show (l0_2.take ((ji38) : Int).toNat).length = (ji38).toNat from (by rw [List.length_take]; have h_ : ((ji38) : Int) ≤ (l0_2.length : Int) := of_decide_eq_true (by first | (with_reducible assumption) | assumption); omega)); omega)
                          intro v186 w47 ho hb hg hat
                          rw [← Ny185.out] at ho
                          have HO187 := Aside0.mk (ho)
                          replace HO_172000 := Aside0.mk (Kd.R_grown (R_ HO_172000.out) hg (fun _ _ => by simp [Value.ownBlock]))
                          replace HO_172001 := Aside0.mk (Kd.R_grown (R_ HO_172001.out) hg (fun _ _ => by simp [Value.ownBlock]))
                          replace BK169 := Aside0.mk (blk_grown (g := gb169) (o := .cells #[.slice A0_0 l0_0.length c0_0, .slice A0_1 l0_1.length c0_1, .slice A0_2 l0_2.length c0_2] 26 (0, 0)) (B_ BK169.out) hg (by simp [Value.ownBlock]))
                          replace BK170 := Aside0.mk (blk_grown (g := gb170) (o := .cells #[.slice none 0 0, .slice none 0 0, .slice none 0 0] 26 (0, 0)) (B_ BK170.out) hg (by simp [Value.ownBlock]))
                          replace BK171 := Aside0.mk (blk_grown (g := gb171) (o := .cells #[u172000, u172001, .slice none 0 0] 26 (0, 0)) (B_ BK171.out) hg (by simp [Value.ownBlock]))
                          replace HB := Aside0.mk (hb)
                          clear ho hb hg hat
                          obtain ⟨Ao48, co48, eo48⟩ := Kd.R_slice HO187.out
                          (first | subst eo48 | (injection eo48 with f1_ f2_ f3_; have f4_ := f1_.symm; have f5_ := f3_.symm; clear f1_ f2_ f3_; subst f4_; subst f5_))
                          refine hK.out _ _ ⟨(blk_cell BK171.out 0).trans rfl, (blk_cell BK171.out 1).trans rfl, (blk_cell BK171.out 2).trans rfl, (blk_cell BK169.out 0).trans rfl, (blk_cell BK169.out 1).trans rfl, (blk_cell BK169.out 2).trans rfl⟩ (fun hHeld => ?_)
                          clear hK K
                          refine norm_ (a' := ?_) ?_ ?_; rotate_left; (show Act.put _ (some 68) _ = _; simp only [Act.put, List.setIfInBounds_toArray, List.set_cons_zero, List.set_cons_succ, i64_w, i32_w]; rfl)
                          refine pure_ (i := 10) (N := some 69) (v := ?_) (a' := ?_) #[true, true, true, true, true, true, true, true, true, true, true, false] rfl rfl (any_of HT_.out (by kernel_rfl)) (fun _ _ _ h => h) (Or.inl ⟨by rfl, ?_⟩) ?_ ?_; rotate_left; (intro w'; go_simp; with_reducible rfl); rotate_left; (simp only [Act.put, List.setIfInBounds_toArray, List.set_cons_zero, List.set_cons_succ, i64_w, i32_w]; rfl)
                          refine last_ (i := 11) (N := none) #[true, true, true, true, true, true, true, true, true, true, true, true] rfl rfl (one_of HT_.out (by kernel_rfl)) (by decide) (fun K hK => ?_)
                          have hs49 : w47.cell? ⟨gb171, 2, none⟩ = some (.slice none 0 0) := (blk_cell BK171.out 2).trans rfl
                          have hfs49 := blk_frozen BK171.out 2
                          have hns49_0 := NB169_171.out
                          have hns49_1 := NB170_171.out
                          have hms49_0 := NB171_169.out
                          have hms49_1 := NB171_170.out
                          refine skip_ (w1 := ?_) (by rfl) rfl ?_ ?_
                          rotate_left
                          · go_simp
                            rfl
                          refine hK.out _ _ ?_
                          clear hK K
                          refine done_ (done_of HT_.out (by kernel_rfl)) ?_
                          have hnb50 := NB171_170.out
                          have hnc50 := NB170_171.out
                          have hcz51_0 : w47.cell? ⟨gb171, 0, none⟩ = some (u172000) := (blk_cell BK171.out 0).trans rfl
                          have hcz51_1 : w47.cell? ⟨gb171, 1, none⟩ = some (u172001) := (blk_cell BK171.out 1).trans rfl
                          have hcz51_2 : w47.cell? ⟨gb171, 2, none⟩ = some (.slice none 0 0) := (blk_cell BK171.out 2).trans rfl
                          have hfz51_0 := blk_frozen BK171.out 0
                          have hfz51_1 := blk_frozen BK171.out 1
                          have hfz51_2 := blk_frozen BK171.out 2
                          obtain ⟨Ao52, co52, eo52⟩ := Kd.R_slice HO_172000.out
                          subst eo52
                          have hcz53_0 : w47.cell? ⟨gb170, 0, none⟩ = some (.slice none 0 0) := (blk_cell BK170.out 0).trans rfl
                          have hcz53_1 : w47.cell? ⟨gb170, 1, none⟩ = some (.slice none 0 0) := (blk_cell BK170.out 1).trans rfl
                          have hcz53_2 : w47.cell? ⟨gb170, 2, none⟩ = some (.slice none 0 0) := (blk_cell BK170.out 2).trans rfl
                          have hfz53_0 := blk_frozen BK170.out 0
                          have hfz53_1 := blk_frozen BK170.out 1
                          have hfz53_2 := blk_frozen BK170.out 2
                          obtain ⟨Ao54, co54, eo54⟩ := Kd.R_slice HO_172001.out
                          subst eo54
                          try go_wp2
                          refine bodyPost_ret (results_cell_row rfl _ _ gb170 26 #[.slice Ao52 x172000_1.length co52, .slice Ao54 x172001_3.length co54, .slice Ao48 y185.length co48] (0, 0) _ rfl (by (with_reducible repeat (first | refine blk_drewN ?_ _ | refine blk_drew ?_ | refine blk_alloc ?_ _)); refine blk_put (cs := #[.slice Ao52 x172000_1.length co52, .slice Ao54 x172001_3.length co54, .slice none 0 0]) ?_ 2 _ rfl; (with_reducible repeat (first | refine blk_drewN ?_ _ | refine blk_drew ?_ | refine blk_alloc ?_ _)); refine blk_put (cs := #[.slice Ao52 x172000_1.length co52, .slice none 0 0, .slice none 0 0]) ?_ 1 _ rfl; (with_reducible repeat (first | refine blk_drewN ?_ _ | refine blk_drew ?_ | refine blk_alloc ?_ _)); refine blk_put (cs := #[.slice none 0 0, .slice none 0 0, .slice none 0 0]) ?_ 0 _ rfl; (with_reducible repeat (first | refine blk_drewN ?_ _ | refine blk_drew ?_ | refine blk_alloc ?_ _)); refine blk_far ?_ NB170_171.out _; (with_reducible repeat (first | refine blk_drewN ?_ _ | refine blk_drew ?_ | refine blk_alloc ?_ _)); exact BK170.out) Try.underlying26 rfl (by kernel_rfl)) rfl ?_
                          exact ⟨_, _, _, by first | rfl | (simp [errW_none, errW_some] <;> rfl) | (simp only [← hji38]; first | rfl | (simp [errW_none, errW_some] <;> rfl)) | (simp [*, errW_none, errW_some] <;> rfl), by (with_reducible repeat (first | apply Kd.R_alloc | apply Kd.R_drewN | apply Kd.R_drew)); exact Kd.R_mono (Kd.R_far (p := ⟨gb170, 2, none⟩) (Kd.R_far (p := ⟨gb170, 1, none⟩) (Kd.R_far (p := ⟨gb170, 0, none⟩) (Kd.R_far (p := ⟨gb171, 2, none⟩) (Kd.R_types (Kd.R_types HO_172000.out BK171.out (by decide)) BK170.out (by decide)) (fun _ hk => hk.1.2) (.slice Ao48 y185.length co48)) (fun _ hk => hk.2) (.slice Ao52 x172000_1.length co52)) (fun _ hk => hk.2) (.slice Ao54 x172001_3.length co54)) (fun _ hk => hk.2) (.slice Ao48 y185.length co48)) (fun _ hk => trivial), by (with_reducible repeat (first | apply Kd.R_alloc | apply Kd.R_drewN | apply Kd.R_drew)); exact Kd.R_mono (Kd.R_far (p := ⟨gb170, 2, none⟩) (Kd.R_far (p := ⟨gb170, 1, none⟩) (Kd.R_far (p := ⟨gb170, 0, none⟩) (Kd.R_far (p := ⟨gb171, 2, none⟩) (Kd.R_types (Kd.R_types HO_172001.out BK171.out (by decide)) BK170.out (by decide)) (fun _ hk => hk.1.2) (.slice Ao48 y185.length co48)) (fun _ hk => hk.2) (.slice Ao52 x172000_1.length co52)) (fun _ hk => hk.2) (.slice Ao54 x172001_3.length co54)) (fun _ hk => hk.2) (.slice Ao48 y185.length co48)) (fun _ hk => trivial), by (with_reducible repeat (first | apply Kd.R_alloc | apply Kd.R_drewN | apply Kd.R_drew)); exact Kd.R_mono (Kd.R_far (p := ⟨gb170, 2, none⟩) (Kd.R_far (p := ⟨gb170, 1, none⟩) (Kd.R_far (p := ⟨gb170, 0, none⟩) (Kd.R_far (p := ⟨gb171, 2, none⟩) (Kd.R_types (Kd.R_types HO187.out BK171.out (by decide)) BK170.out (by decide)) (fun _ hk => hk.1.2) (.slice Ao48 y185.length co48)) (fun _ hk => hk.2) (.slice Ao52 x172000_1.length co52)) (fun _ hk => hk.2) (.slice Ao54 x172001_3.length co54)) (fun _ hk => hk.2) (.slice Ao48 y185.length co48)) (fun _ hk => trivial), by repeat (first | (with_reducible first | exact HB.out | apply below_alloc | apply pw_below_drewN | apply below_drew1 | refine below_set ?_ GE169.out | refine below_set ?_ GE170.out | refine below_set ?_ GE171.out) | exact HB.out)⟩
                        · rw [if_neg c41] at H
                          exact absurd H (by simp)
                      · rw [if_neg c40] at H
                        exact absurd H (by simp)
                    · rw [if_neg c39] at H
                      exact absurd H (by simp)
                · rw [if_neg c25] at H
                  have c25b0 : decide (x5_3 < (l0_1.length : Int)) = false := decide_eq_false c25
                  clear c25
                  obtain ⟨ji55, hji55⟩ : ∃ j_ : Int, (mn (l0_2.length : Int) 260) = j_ := ⟨_, rfl⟩
                  replace H : (if 0 ≤ (ji55) then (if (ji55) ≤ (l0_2.length : Int) then (if ([] : List Int).length + (l0_2.take ((ji55) : Int).toNat).length < 35184372088832 then (some (x172000_1, x172001_3, (([] : List Int) ++ (l0_2.take ((ji55) : Int).toNat)))) else (none)) else (none)) else (none)) = some (r1, r2, r3) := by first | (rw [hji55] at H; exact H) | (simp only [hji55] at H ⊢; exact H)
                  have hji55_ : (if 260 < (l0_2.length : Int) then 260 else (l0_2.length : Int)) = ji55 := hji55
                  by_cases c56 : 0 ≤ (ji55)
                  · rw [if_pos c56] at H
                    have c56b0 := eq_true c56
                    have c56b1 : decide (0 ≤ (ji55)) = true := decide_eq_true c56
                    clear c56
                    by_cases c57 : (ji55) ≤ (l0_2.length : Int)
                    · rw [if_pos c57] at H
                      have c57b0 := eq_true c57
                      have c57b1 : decide ((ji55) ≤ (l0_2.length : Int)) = true := decide_eq_true c57
                      clear c57
                      by_cases c58 : ([] : List Int).length + (l0_2.take ((ji55) : Int).toNat).length < 35184372088832
                      · rw [if_pos c58] at H
                        have LMc58 := Aside0.mk c58
                        clear c58
                        obtain ⟨y189, hy189⟩ : ∃ y_ : List Int, y_ = (([] : List Int) ++ (l0_2.take ((ji55) : Int).toNat)) := ⟨_, rfl⟩
                        replace H : (some (x172000_1, x172001_3, y189)) = some (r1, r2, r3) := by first | (rw [hy189]; with_reducible exact H) | (have H2_ := (Option.bind_some _ _).symm.trans H; rw [hy189]; with_reducible exact H2_) | (have H2_ := (Option.bind_some _ _).symm.trans H; with_reducible exact H2_) | with_reducible exact H | (rw [hy189]; exact H) | exact H
                        have Ny189 := Aside0.mk hy189
                        clear hy189
                        simp only [Option.some.injEq, Prod.mk.injEq] at H
                        obtain ⟨rfl, rfl, rfl⟩ := H
                        have hnb59 := NB169_170.out
                        have hnc59 := NB170_169.out
                        have hnb60 := NB169_171.out
                        have hnc60 := NB171_169.out
                        have hcz61_0 : wr.cell? ⟨gb169, 0, none⟩ = some (.slice A0_0 l0_0.length c0_0) := (blk_cell BK169.out 0).trans rfl
                        have hcz61_1 : wr.cell? ⟨gb169, 1, none⟩ = some (.slice A0_1 l0_1.length c0_1) := (blk_cell BK169.out 1).trans rfl
                        have hcz61_2 : wr.cell? ⟨gb169, 2, none⟩ = some (.slice A0_2 l0_2.length c0_2) := (blk_cell BK169.out 2).trans rfl
                        have hfz61_0 := blk_frozen BK169.out 0
                        have hfz61_1 := blk_frozen BK169.out 1
                        have hfz61_2 := blk_frozen BK169.out 2
                        try go_wp2
                        replace HO_172000 := Aside0.mk (Kd.R_drew HO_172000.out)
                        replace HO_172001 := Aside0.mk (Kd.R_drew HO_172001.out)
                        replace BK169 := Aside0.mk (blk_drew BK169.out)
                        replace BK170 := Aside0.mk (blk_drew BK170.out)
                        replace BK171 := Aside0.mk (blk_drew BK171.out)
                        replace HB := Aside0.mk (below_drew1 HB.out)
                        obtain ⟨i063, hi063, _, hsz63, _⟩ := info_parts info65
                        obtain ⟨hcut63, hA63, hC63⟩ := print_take_of (P := Try.prog) (Value.int .u32) 0 24 65 .i64 Try.underlying24 hi063 hsz63 A0_2 c0_2 l0_2 (ji55) (of_decide_eq_true (by first | (with_reducible assumption) | assumption)) (of_decide_eq_true (by first | (with_reducible assumption) | assumption)) HC0_2.out
                        have HR188 := Aside0.mk (Kd.C_of_reads (h1 := fun _ => rfl) (hA63 _ (Kd.reads_of_C HR0_2.out)))
                        have HC188 := Aside0.mk hC63
                        clear hA63 hC63 hi063 hsz63
                        refine start_ (n := 12) (S := fun w' => w'.cell? ⟨gb171, 0, none⟩ = some (u172000) ∧ w'.cell? ⟨gb171, 1, none⟩ = some (u172001) ∧ w'.cell? ⟨gb171, 2, none⟩ = some (.slice none 0 0) ∧ w'.cell? ⟨gb169, 0, none⟩ = some (.slice A0_0 l0_0.length c0_0) ∧ w'.cell? ⟨gb169, 1, none⟩ = some (.slice A0_1 l0_1.length c0_1) ∧ w'.cell? ⟨gb169, 2, none⟩ = some (.slice A0_2 l0_2.length c0_2)) (ds := [11]) #[false, false, false, false, false, false, false, false, false, false, false, false] (by kernel_rfl) rfl rfl ⟨(blk_cell BK171.out 0).trans rfl, (blk_cell BK171.out 1).trans rfl, (blk_cell BK171.out 2).trans rfl, (blk_cell BK169.out 0).trans rfl, (blk_cell BK169.out 1).trans rfl, (blk_cell BK169.out 2).trans rfl⟩ (fun hHeld => ?_); refine with_tabW bazaarlaw06_cut.tab10 bazaarlaw06_cut.bits10 (fun HT_ HW_ => ?_)
                        generalize wr.drew = w62 at HO_172000 HO_172001 BK169 BK170 BK171 HB HR188 hHeld ⊢
                        refine pure_ (i := 0) (N := some 59) (v := ?_) (a' := ?_) #[true, false, false, false, false, false, false, false, false, false, false, false] rfl rfl (any_of HT_.out (by kernel_rfl)) (fun _ _ _ h => h) (Or.inl ⟨by rfl, ?_⟩) ?_ ?_; rotate_left; (intro w'; go_simp; with_reducible rfl); rotate_left; (simp only [Act.put, List.setIfInBounds_toArray, List.set_cons_zero, List.set_cons_succ, i64_w, i32_w]; rfl)
                        refine pure_ (i := 2) (N := some 61) (v := ?_) (a' := ?_) #[true, false, true, false, false, false, false, false, false, false, false, false] rfl rfl (any_of HT_.out (by kernel_rfl)) (fun _ _ _ h => h) (Or.inl ⟨by rfl, ?_⟩) ?_ ?_; rotate_left; (intro w'; go_simp; with_reducible rfl); rotate_left; (simp only [Act.put, List.setIfInBounds_toArray, List.set_cons_zero, List.set_cons_succ, i64_w, i32_w]; rfl)
                        refine pure_ (i := 4) (N := some 63) (v := ?_) (a' := ?_) #[true, false, true, false, true, false, false, false, false, false, false, false] rfl rfl (any_of HT_.out (by kernel_rfl)) (fun _ _ _ h => h) (Or.inl ⟨by rfl, ?_⟩) ?_ ?_; rotate_left; (intro w'; go_simp; with_reducible rfl); rotate_left; (simp only [Act.put, List.setIfInBounds_toArray, List.set_cons_zero, List.set_cons_succ, i64_w, i32_w]; rfl)
                        refine take_ (i := 1) (N := some 60) (v := ?_) (a' := ?_) #[true, true, true, false, true, false, false, false, false, false, false, false] rfl rfl (take_ofW HT_.out HW_.out (by kernel_rfl)) (fun _ _ _ h => h) (Or.inl ⟨by rfl, ?_⟩) hHeld ?_ ?_
                        rotate_left
                        · rintro w' ⟨s0, s1, s2, s3, s4, s5⟩
                          go_simp
                          with_reducible rfl
                        rotate_left
                        · simp only [Act.put, List.setIfInBounds_toArray, List.set_cons_zero, List.set_cons_succ, i64_w, i32_w]
                          rfl
                        refine take_ (i := 3) (N := some 62) (v := ?_) (a' := ?_) #[true, true, true, true, true, false, false, false, false, false, false, false] rfl rfl (take_ofW HT_.out HW_.out (by kernel_rfl)) (fun _ _ _ h => h) (Or.inl ⟨by rfl, ?_⟩) hHeld ?_ ?_
                        rotate_left
                        · rintro w' ⟨s0, s1, s2, s3, s4, s5⟩
                          go_simp
                          with_reducible rfl
                        rotate_left
                        · simp only [Act.put, List.setIfInBounds_toArray, List.set_cons_zero, List.set_cons_succ, i64_w, i32_w]
                          rfl
                        refine take_ (i := 5) (N := some 64) (v := ?_) (a' := ?_) #[true, true, true, true, true, true, false, false, false, false, false, false] rfl rfl (take_ofW HT_.out HW_.out (by kernel_rfl)) (fun _ _ _ h => h) (Or.inl ⟨by rfl, ?_⟩) hHeld ?_ ?_
                        rotate_left
                        · rintro w' ⟨s0, s1, s2, s3, s4, s5⟩
                          go_simp
                          with_reducible rfl
                        rotate_left
                        · simp only [Act.put, List.setIfInBounds_toArray, List.set_cons_zero, List.set_cons_succ, i64_w, i32_w]
                          rfl
                        refine pure_ (i := 6) (N := some 65) (v := ?_) (a' := ?_) #[true, true, true, true, true, true, true, false, false, false, false, false] rfl rfl (any_of HT_.out (by kernel_rfl)) (fun _ _ _ h => h) (Or.inl ⟨by rfl, ?_⟩) ?_ ?_; rotate_left; (intro w'; go_simp; with_reducible rfl); rotate_left; (simp only [Act.put, List.setIfInBounds_toArray, List.set_cons_zero, List.set_cons_succ, i64_w, i32_w]; rfl)
                        refine pure_ (i := 7) (N := some 66) (v := ?_) (a' := ?_) #[true, true, true, true, true, true, true, true, false, false, false, false] rfl rfl (any_of HT_.out (by kernel_rfl)) (fun _ _ _ h => h) (Or.inl ⟨by rfl, ?_⟩) ?_ ?_; rotate_left; (intro w'; go_simp; with_reducible rfl); rotate_left; (simp only [Act.put, List.setIfInBounds_toArray, List.set_cons_zero, List.set_cons_succ, i64_w, i32_w]; rfl)
                        refine pure_ (i := 8) (N := some 67) (v := ?_) (a' := ?_) #[true, true, true, true, true, true, true, true, true, false, false, false] rfl rfl (any_of HT_.out (by kernel_rfl)) (fun _ _ _ h => h) (Or.inl ⟨by rfl, ?_⟩) ?_ ?_; rotate_left; (intro w'; go_simp; with_reducible rfl); rotate_left; (simp only [Act.put, List.setIfInBounds_toArray, List.set_cons_zero, List.set_cons_succ, i64_w, i32_w]; rfl)
                        refine one_ (i := 9) (N := some 68) #[true, true, true, true, true, true, true, true, true, true, false, false] rfl rfl (one_of HT_.out (by kernel_rfl)) (by decide) (fun K hK => ?_)
                        refine Kd.R_append_rows_step (Kd.int .u32) (w0 := w) w.heap.size (by rfl) (.tmp 60) (.tmp 67) 24 65 (.int .u32 0) 4 rfl Try.underlying24 info65 rfl (by decide) (by omega) (.slice none 0 0) ([] : List Int) (l0_2.take ((ji55) : Int).toNat) _ _ _ (fun _ => True) (fun _ => False) rfl rfl ?aO ?aR (fun _ _ h => h) (fun _ h => h.elim) ?aF ?aB ?aS ?aL ?_
                        (case aR => first | ((conv => arg 5; rw [← show (l0_2.take ((ji55) : Int).toNat).length = (ji55).toNat from (by rw [List.length_take]; have h_ : ((ji55) : Int) ≤ (l0_2.length : Int) := of_decide_eq_true (by first | (with_reducible assumption) | assumption); omega)]); repeat (first | exact (Kd.C_below HR188.out HB.out) | (with_reducible refine Kd.C_alloc ?_ _) | (with_reducible refine Kd.C_drewN ?_ _) | (with_reducible refine Kd.C_drew ?_))) | (repeat (first | exact (Kd.C_below HR188.out HB.out) | (with_reducible refine Kd.C_alloc ?_ _) | (with_reducible refine Kd.C_drewN ?_ _) | (with_reducible refine Kd.C_drew ?_))))
                        (case aB => exact (L_ HB.out))
                        (case aF => exact (fun _ _ => trivial))
                        (case aO => exact ((Kd.R_nil _ _ _ _ (fun _ => True))))
                        (case aS => exact (below_size (L_ HB.out)))
                        (case aL => have := LMc58.out; have hlx_ := (show (l0_2.take ((ji55) : Int).toNat).length = (ji55).toNat from (by rw [List.length_take]; have h_ : ((ji55) : Int) ≤ (l0_2.length : Int) := of_decide_eq_true (by first | (with_reducible assumption) | assumption); omega)); omega)
                        intro v190 w64 ho hb hg hat
                        rw [← Ny189.out] at ho
                        have HO191 := Aside0.mk (ho)
                        replace HO_172000 := Aside0.mk (Kd.R_grown (R_ HO_172000.out) hg (fun _ _ => by simp [Value.ownBlock]))
                        replace HO_172001 := Aside0.mk (Kd.R_grown (R_ HO_172001.out) hg (fun _ _ => by simp [Value.ownBlock]))
                        replace BK169 := Aside0.mk (blk_grown (g := gb169) (o := .cells #[.slice A0_0 l0_0.length c0_0, .slice A0_1 l0_1.length c0_1, .slice A0_2 l0_2.length c0_2] 26 (0, 0)) (B_ BK169.out) hg (by simp [Value.ownBlock]))
                        replace BK170 := Aside0.mk (blk_grown (g := gb170) (o := .cells #[.slice none 0 0, .slice none 0 0, .slice none 0 0] 26 (0, 0)) (B_ BK170.out) hg (by simp [Value.ownBlock]))
                        replace BK171 := Aside0.mk (blk_grown (g := gb171) (o := .cells #[u172000, u172001, .slice none 0 0] 26 (0, 0)) (B_ BK171.out) hg (by simp [Value.ownBlock]))
                        replace HB := Aside0.mk (hb)
                        clear ho hb hg hat
                        obtain ⟨Ao65, co65, eo65⟩ := Kd.R_slice HO191.out
                        (first | subst eo65 | (injection eo65 with f1_ f2_ f3_; have f4_ := f1_.symm; have f5_ := f3_.symm; clear f1_ f2_ f3_; subst f4_; subst f5_))
                        refine hK.out _ _ ⟨(blk_cell BK171.out 0).trans rfl, (blk_cell BK171.out 1).trans rfl, (blk_cell BK171.out 2).trans rfl, (blk_cell BK169.out 0).trans rfl, (blk_cell BK169.out 1).trans rfl, (blk_cell BK169.out 2).trans rfl⟩ (fun hHeld => ?_)
                        clear hK K
                        refine norm_ (a' := ?_) ?_ ?_; rotate_left; (show Act.put _ (some 68) _ = _; simp only [Act.put, List.setIfInBounds_toArray, List.set_cons_zero, List.set_cons_succ, i64_w, i32_w]; rfl)
                        refine pure_ (i := 10) (N := some 69) (v := ?_) (a' := ?_) #[true, true, true, true, true, true, true, true, true, true, true, false] rfl rfl (any_of HT_.out (by kernel_rfl)) (fun _ _ _ h => h) (Or.inl ⟨by rfl, ?_⟩) ?_ ?_; rotate_left; (intro w'; go_simp; with_reducible rfl); rotate_left; (simp only [Act.put, List.setIfInBounds_toArray, List.set_cons_zero, List.set_cons_succ, i64_w, i32_w]; rfl)
                        refine last_ (i := 11) (N := none) #[true, true, true, true, true, true, true, true, true, true, true, true] rfl rfl (one_of HT_.out (by kernel_rfl)) (by decide) (fun K hK => ?_)
                        have hs66 : w64.cell? ⟨gb171, 2, none⟩ = some (.slice none 0 0) := (blk_cell BK171.out 2).trans rfl
                        have hfs66 := blk_frozen BK171.out 2
                        have hns66_0 := NB169_171.out
                        have hns66_1 := NB170_171.out
                        have hms66_0 := NB171_169.out
                        have hms66_1 := NB171_170.out
                        refine skip_ (w1 := ?_) (by rfl) rfl ?_ ?_
                        rotate_left
                        · go_simp
                          rfl
                        refine hK.out _ _ ?_
                        clear hK K
                        refine done_ (done_of HT_.out (by kernel_rfl)) ?_
                        have hnb67 := NB171_170.out
                        have hnc67 := NB170_171.out
                        have hcz68_0 : w64.cell? ⟨gb171, 0, none⟩ = some (u172000) := (blk_cell BK171.out 0).trans rfl
                        have hcz68_1 : w64.cell? ⟨gb171, 1, none⟩ = some (u172001) := (blk_cell BK171.out 1).trans rfl
                        have hcz68_2 : w64.cell? ⟨gb171, 2, none⟩ = some (.slice none 0 0) := (blk_cell BK171.out 2).trans rfl
                        have hfz68_0 := blk_frozen BK171.out 0
                        have hfz68_1 := blk_frozen BK171.out 1
                        have hfz68_2 := blk_frozen BK171.out 2
                        obtain ⟨Ao69, co69, eo69⟩ := Kd.R_slice HO_172000.out
                        subst eo69
                        have hcz70_0 : w64.cell? ⟨gb170, 0, none⟩ = some (.slice none 0 0) := (blk_cell BK170.out 0).trans rfl
                        have hcz70_1 : w64.cell? ⟨gb170, 1, none⟩ = some (.slice none 0 0) := (blk_cell BK170.out 1).trans rfl
                        have hcz70_2 : w64.cell? ⟨gb170, 2, none⟩ = some (.slice none 0 0) := (blk_cell BK170.out 2).trans rfl
                        have hfz70_0 := blk_frozen BK170.out 0
                        have hfz70_1 := blk_frozen BK170.out 1
                        have hfz70_2 := blk_frozen BK170.out 2
                        obtain ⟨Ao71, co71, eo71⟩ := Kd.R_slice HO_172001.out
                        subst eo71
                        try go_wp2
                        refine bodyPost_ret (results_cell_row rfl _ _ gb170 26 #[.slice Ao69 x172000_1.length co69, .slice Ao71 x172001_3.length co71, .slice Ao65 y189.length co65] (0, 0) _ rfl (by (with_reducible repeat (first | refine blk_drewN ?_ _ | refine blk_drew ?_ | refine blk_alloc ?_ _)); refine blk_put (cs := #[.slice Ao69 x172000_1.length co69, .slice Ao71 x172001_3.length co71, .slice none 0 0]) ?_ 2 _ rfl; (with_reducible repeat (first | refine blk_drewN ?_ _ | refine blk_drew ?_ | refine blk_alloc ?_ _)); refine blk_put (cs := #[.slice Ao69 x172000_1.length co69, .slice none 0 0, .slice none 0 0]) ?_ 1 _ rfl; (with_reducible repeat (first | refine blk_drewN ?_ _ | refine blk_drew ?_ | refine blk_alloc ?_ _)); refine blk_put (cs := #[.slice none 0 0, .slice none 0 0, .slice none 0 0]) ?_ 0 _ rfl; (with_reducible repeat (first | refine blk_drewN ?_ _ | refine blk_drew ?_ | refine blk_alloc ?_ _)); refine blk_far ?_ NB170_171.out _; (with_reducible repeat (first | refine blk_drewN ?_ _ | refine blk_drew ?_ | refine blk_alloc ?_ _)); exact BK170.out) Try.underlying26 rfl (by kernel_rfl)) rfl ?_
                        exact ⟨_, _, _, by first | rfl | (simp [errW_none, errW_some] <;> rfl) | (simp only [← hji55]; first | rfl | (simp [errW_none, errW_some] <;> rfl)) | (simp [*, errW_none, errW_some] <;> rfl), by (with_reducible repeat (first | apply Kd.R_alloc | apply Kd.R_drewN | apply Kd.R_drew)); exact Kd.R_mono (Kd.R_far (p := ⟨gb170, 2, none⟩) (Kd.R_far (p := ⟨gb170, 1, none⟩) (Kd.R_far (p := ⟨gb170, 0, none⟩) (Kd.R_far (p := ⟨gb171, 2, none⟩) (Kd.R_types (Kd.R_types HO_172000.out BK171.out (by decide)) BK170.out (by decide)) (fun _ hk => hk.1.2) (.slice Ao65 y189.length co65)) (fun _ hk => hk.2) (.slice Ao69 x172000_1.length co69)) (fun _ hk => hk.2) (.slice Ao71 x172001_3.length co71)) (fun _ hk => hk.2) (.slice Ao65 y189.length co65)) (fun _ hk => trivial), by (with_reducible repeat (first | apply Kd.R_alloc | apply Kd.R_drewN | apply Kd.R_drew)); exact Kd.R_mono (Kd.R_far (p := ⟨gb170, 2, none⟩) (Kd.R_far (p := ⟨gb170, 1, none⟩) (Kd.R_far (p := ⟨gb170, 0, none⟩) (Kd.R_far (p := ⟨gb171, 2, none⟩) (Kd.R_types (Kd.R_types HO_172001.out BK171.out (by decide)) BK170.out (by decide)) (fun _ hk => hk.1.2) (.slice Ao65 y189.length co65)) (fun _ hk => hk.2) (.slice Ao69 x172000_1.length co69)) (fun _ hk => hk.2) (.slice Ao71 x172001_3.length co71)) (fun _ hk => hk.2) (.slice Ao65 y189.length co65)) (fun _ hk => trivial), by (with_reducible repeat (first | apply Kd.R_alloc | apply Kd.R_drewN | apply Kd.R_drew)); exact Kd.R_mono (Kd.R_far (p := ⟨gb170, 2, none⟩) (Kd.R_far (p := ⟨gb170, 1, none⟩) (Kd.R_far (p := ⟨gb170, 0, none⟩) (Kd.R_far (p := ⟨gb171, 2, none⟩) (Kd.R_types (Kd.R_types HO191.out BK171.out (by decide)) BK170.out (by decide)) (fun _ hk => hk.1.2) (.slice Ao65 y189.length co65)) (fun _ hk => hk.2) (.slice Ao69 x172000_1.length co69)) (fun _ hk => hk.2) (.slice Ao71 x172001_3.length co71)) (fun _ hk => hk.2) (.slice Ao65 y189.length co65)) (fun _ hk => trivial), by repeat (first | (with_reducible first | exact HB.out | apply below_alloc | apply pw_below_drewN | apply below_drew1 | refine below_set ?_ GE169.out | refine below_set ?_ GE170.out | refine below_set ?_ GE171.out) | exact HB.out)⟩
                      · rw [if_neg c58] at H
                        exact absurd H (by simp)
                    · rw [if_neg c57] at H
                      exact absurd H (by simp)
                  · rw [if_neg c56] at H
                    exact absurd H (by simp)

end Go.Proofs.Ytejempihaknplaa.G
