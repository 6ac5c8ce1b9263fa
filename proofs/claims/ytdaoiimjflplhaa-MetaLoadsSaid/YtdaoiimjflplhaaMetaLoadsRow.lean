/- The statement of the law MetaLoads: the walk of the law, wrapped into the row. No condition. -/
import Derived.Test.YtdaoiimjflplhaaRows
import Derived.Test.YtdaoiimjflplhaaMetaLoads
import Derived.Test.YtdaoiimjflplhaaArgsM
import Derived.Test.YtdaoiimjflplhaaPost
import Derived.WalkKit
import Derived.ProofKit
import Derived.OpenShut
import Derived.ShutString
namespace Go.Proofs.Ytdaoiimjflplhaa.metaLoads
open Go.ChangeShapes Go.WideShapes Go.ChangeAt Go.RowKit
open Go.ChangeMaps (open_string shut_string)
set_option linter.unusedVariables false

theorem own : ownKnob Try.prog.godebug = none := by kernel_rfl

set_option maxRecDepth 100000 in
theorem lifted (os : Os) (started : os.Started) (H : Type) (enc : TypeId × Value → H) :
    ReturnsInHanded {} Try.checked os 5 .any (Rows.metaLoadsSpec.pre6 enc Try.prog Try.f5 Rows.metaLoadsRow.domain false) (Rows.metaLoadsSpec.post enc Try.prog Try.f5 false true false false) := by
  refine returnsInHanded_of_change (C := Try.checked) own started (by kernel_rfl) Try.func5
    (ChangeSpec.witness6 (enc := enc) (C := Try.checked) false ⟨#[], #[.int .i64 0, .slice none 0 0, .slice none 0 0], []⟩ 8 (by kernel_rfl) (by kernel_rfl) (by kernel_rfl) (by kernel_rfl)) ?_
  intro W base args ds gs before hval0 hW hcnd _
  have hval : ∀ (j : Nat) t v, Try.f5.params[j]? = some t → args[j]? = some v → Value.okWide Try.prog W .any base t v := hval0
  have hW' := hW
  have hltW := fun p hp => hW'.lt p hp
  obtain ⟨p, q, hA0, hV, rfl, hfz, hnd⟩ := hW
  have hA : DataW.TrodAll enc Try.prog W 0 (fun _ => true) true Try.f5.params.toList args.toList ds p := hA0
  rw [Try.params5] at hA hval
  obtain ⟨v0, vs0, d0, ds0, p0, q0, hargs, rfl, rfl, h0, r0⟩ := trodAll_cons hA
  obtain ⟨v1, vs1, d1, ds1, p1, q1, rfl, rfl, rfl, h1, r1⟩ := trodAll_cons r0
  obtain ⟨v2, vs2, d2, ds2, p2, q2, rfl, rfl, rfl, h2, r2⟩ := trodAll_cons r1
  obtain ⟨rfl, rfl, rfl⟩ := trodAll_nil r2
  obtain rfl : args = #[v0, v1, v2] := by cases args; simp_all
  obtain ⟨rfl, rfl⟩ := trodVars_none hV
  have hk0 := h0
  obtain ⟨a0, rfl, rfl, rfl, w0⟩ := open_int Try.underlying3 (hval 0 3 v0 rfl rfl) h0
  have hk1 := h1
  obtain ⟨so1, n1, cap1, xs1, rfl, w1⟩ := metas_of (hval 1 34 v1 rfl rfl) h1
  have hk2 := h2
  obtain ⟨so2, n2, cap2, xs2, rfl, w2⟩ := texts_of (hval 2 35 v2 rfl rfl) h2
  clear hA0 hval0
  simp only [List.append_nil] at hW' hltW
  refine (metaLoads_any a0 so1 so2 n1 cap1 n2 cap2 xs1 xs2 W w1.1 w1.2.1 w1.2.2 w2.1 w2.2.1 w2.2.2).mono fun e W' ⟨he, hg⟩ => ?_
  subst he
  exact ⟨_, rfl, post_of_below (pv := []) hW' (fun _ _ _ => (trodAll_cons_mk (shut_bool Try.underlying4 _) trodAll_mk0)) (fun sp hsp => (trodAll_cons_mk (WideElems.Trod_stays laid (by kernel_rfl) (of_decide_eq_true (by kernel_rfl)) hk0 (fun x hx => hg.same (hltW x (by first | exact absurd hx (by simp) | (simp [hx]; done)))) (fun x hx => hsp x (by first | exact absurd hx (by simp) | (simp [hx]; done)))) (trodAll_cons_mk (WideElems.Trod_stays laid (by kernel_rfl) (of_decide_eq_true (by kernel_rfl)) hk1 (fun x hx => hg.same (hltW x (by first | exact absurd hx (by simp) | (simp [hx]; done)))) (fun x hx => hsp x (by first | exact absurd hx (by simp) | (simp [hx]; done)))) (trodAll_cons_mk (WideElems.Trod_stays laid (by kernel_rfl) (of_decide_eq_true (by kernel_rfl)) hk2 (fun x hx => hg.same (hltW x (by first | exact absurd hx (by simp) | (simp [hx]; done)))) (fun x hx => hsp x (by first | exact absurd hx (by simp) | (simp [hx]; done)))) trodAll_mk0)))) (fun _ _ => rfl) (by simp)
    hg (ok_one (by kernel_rfl) rfl (okWide_bool_mk Try.underlying4 _))⟩

theorem over : Rows.metaLoadsRow.holds Try.pinned (OpenSpec.ofChange Rows.metaLoadsSpec) :=
  OpenClaim.holds_of_wide 5 Try.f5 rfl rfl rfl rfl rfl rfl rfl ⟨rfl, rfl, rfl, rfl, rfl⟩ rfl rfl rfl rfl rfl (by kernel_rfl) Try.func5 (by kernel_rfl)
    (of_decide_eq_true (by kernel_rfl)) (by unfold Func.isWrapper; first | (rw [if_pos (by decide +kernel)]; kernel_rfl) | (rw [if_neg (by decide +kernel)]; exact ⟨rfl, rfl⟩))
    (fun os started H enc _ => lifted os started H enc)

/-- The statement. -/
theorem proved : Rows.MetaLoadsSaid :=
  over
end Go.Proofs.Ytdaoiimjflplhaa.metaLoads
