/- The statement of the law MetaTorn: the walk of the law, wrapped into the row. No condition. -/
import Derived.Test.YtdaoiimjflplhaaRows
import Derived.Test.YtdaoiimjflplhaaMetaTorn
import Derived.Test.YtdaoiimjflplhaaArgsM
import Derived.Test.YtdaoiimjflplhaaPost
import Derived.WalkKit
import Derived.ProofKit
import Derived.OpenShut
import Derived.ShutString
namespace Go.Proofs.Ytdaoiimjflplhaa.metaTorn
open Go.ChangeShapes Go.WideShapes Go.ChangeAt Go.RowKit
open Go.ChangeMaps (open_string shut_string)
set_option linter.unusedVariables false

theorem own : ownKnob Try.prog.godebug = none := by kernel_rfl

set_option maxRecDepth 100000 in
theorem lifted (os : Os) (started : os.Started) (H : Type) (enc : TypeId × Value → H) :
    ReturnsInHanded {} Try.checked os 9 .any (Rows.metaTornSpec.pre6 enc Try.prog Try.f9 Rows.metaTornRow.domain false) (Rows.metaTornSpec.post enc Try.prog Try.f9 false true false false) := by
  refine returnsInHanded_of_change (C := Try.checked) own started (by kernel_rfl) Try.func9
    (ChangeSpec.witness6 (enc := enc) (C := Try.checked) false ⟨#[], #[.slice none 0 0, .agg #[.int .u64 0, .int .u32 0, .int .u32 0, .int .u32 0], .int .u64 0, .int .i64 0], []⟩ 8 (by kernel_rfl) (by kernel_rfl) (by kernel_rfl) (by kernel_rfl)) ?_
  intro W base args ds gs before hval0 hW hcnd _
  have hval : ∀ (j : Nat) t v, Try.f9.params[j]? = some t → args[j]? = some v → Value.okWide Try.prog W .any base t v := hval0
  have hW' := hW
  have hltW := fun p hp => hW'.lt p hp
  obtain ⟨p, q, hA0, hV, rfl, hfz, hnd⟩ := hW
  have hA : DataW.TrodAll enc Try.prog W 0 (fun _ => true) true Try.f9.params.toList args.toList ds p := hA0
  rw [Try.params9] at hA hval
  obtain ⟨v0, vs0, d0, ds0, p0, q0, hargs, rfl, rfl, h0, r0⟩ := trodAll_cons hA
  obtain ⟨v1, vs1, d1, ds1, p1, q1, rfl, rfl, rfl, h1, r1⟩ := trodAll_cons r0
  obtain ⟨v2, vs2, d2, ds2, p2, q2, rfl, rfl, rfl, h2, r2⟩ := trodAll_cons r1
  obtain ⟨v3, vs3, d3, ds3, p3, q3, rfl, rfl, rfl, h3, r3⟩ := trodAll_cons r2
  obtain ⟨rfl, rfl, rfl⟩ := trodAll_nil r3
  obtain rfl : args = #[v0, v1, v2, v3] := by cases args; simp_all
  obtain ⟨rfl, rfl⟩ := trodVars_none hV
  have hk0 := h0
  obtain ⟨so0, n0, cap0, xs0, rfl, w0⟩ := metas_of (hval 0 34 v0 rfl rfl) h0
  have hk1 := h1
  obtain ⟨a1, b1, c1, d1', rfl, w1⟩ := meta_of (hval 1 25 v1 rfl rfl) h1
  have hk2 := h2
  obtain ⟨a2', rfl, rfl, rfl, w2'⟩ := open_int Try.underlying22 (hval 2 22 v2 rfl rfl) h2; obtain ⟨a2, rfl, w2⟩ := wf_u64 w2'
  have hk3 := h3
  obtain ⟨a3, rfl, rfl, rfl, w3⟩ := open_int Try.underlying3 (hval 3 3 v3 rfl rfl) h3
  clear hA0 hval0
  simp only [List.append_nil] at hW' hltW
  refine (metaTorn_walk so0 n0 cap0 xs0 a1 b1 c1 d1' a2 a3 W w0.1 w0.2.1 w0.2.2 w1.1 w1.2.1 w1.2.2.1 w1.2.2.2 w2 (wf_int w3)).mono fun e W' ⟨he, hg⟩ => ?_
  subst he
  exact ⟨_, rfl, post_of_below (pv := []) hW' (fun _ _ _ => (trodAll_cons_mk (shut_bool Try.underlying4 _) trodAll_mk0)) (fun sp hsp => (trodAll_cons_mk (WideElems.Trod_stays laid (by kernel_rfl) (of_decide_eq_true (by kernel_rfl)) hk0 (fun x hx => hg.same (hltW x (by first | exact absurd hx (by simp) | (simp [hx]; done)))) (fun x hx => hsp x (by first | exact absurd hx (by simp) | (simp [hx]; done)))) (trodAll_cons_mk (WideElems.Trod_stays laid (by kernel_rfl) (of_decide_eq_true (by kernel_rfl)) hk1 (fun x hx => hg.same (hltW x (by first | exact absurd hx (by simp) | (simp [hx]; done)))) (fun x hx => hsp x (by first | exact absurd hx (by simp) | (simp [hx]; done)))) (trodAll_cons_mk (WideElems.Trod_stays laid (by kernel_rfl) (of_decide_eq_true (by kernel_rfl)) hk2 (fun x hx => hg.same (hltW x (by first | exact absurd hx (by simp) | (simp [hx]; done)))) (fun x hx => hsp x (by first | exact absurd hx (by simp) | (simp [hx]; done)))) (trodAll_cons_mk (WideElems.Trod_stays laid (by kernel_rfl) (of_decide_eq_true (by kernel_rfl)) hk3 (fun x hx => hg.same (hltW x (by first | exact absurd hx (by simp) | (simp [hx]; done)))) (fun x hx => hsp x (by first | exact absurd hx (by simp) | (simp [hx]; done)))) trodAll_mk0))))) (fun _ _ => rfl) (by simp)
    hg (ok_one (by kernel_rfl) rfl (okWide_bool_mk Try.underlying4 _))⟩

theorem over : Rows.metaTornRow.holds Try.pinned (OpenSpec.ofChange Rows.metaTornSpec) :=
  OpenClaim.holds_of_wide 9 Try.f9 rfl rfl rfl rfl rfl rfl rfl ⟨rfl, rfl, rfl, rfl, rfl⟩ rfl rfl rfl rfl rfl (by kernel_rfl) Try.func9 (by kernel_rfl)
    (of_decide_eq_true (by kernel_rfl)) (by unfold Func.isWrapper; first | (rw [if_pos (by decide +kernel)]; kernel_rfl) | (rw [if_neg (by decide +kernel)]; exact ⟨rfl, rfl⟩))
    (fun os started H enc _ => lifted os started H enc)

/-- The statement. -/
theorem proved : Rows.MetaTornSaid :=
  over
end Go.Proofs.Ytdaoiimjflplhaa.metaTorn
