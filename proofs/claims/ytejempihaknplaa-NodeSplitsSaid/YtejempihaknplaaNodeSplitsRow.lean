/- The statement of the law NodeSplits: the walk of the law, wrapped into the row. No condition. -/
import Derived.Test.YtejempihaknplaaRows
import Derived.Test.YtejempihaknplaaHLaw
import Derived.Test.YtejempihaknplaaNdArgs
import Derived.WalkKit
import Derived.ProofKit
import Derived.OpenShut
import Derived.ShutString
namespace Go.Proofs.Ytejempihaknplaa.nodeSplits
open Go.ChangeShapes Go.WideShapes Go.ChangeAt Go.RowKit
open Go.ChangeMaps (open_string shut_string)
open Go.Proofs.Ytejempihaknplaa.G
set_option linter.unusedVariables false

theorem own : ownKnob Try.prog.godebug = none := by kernel_rfl

set_option maxRecDepth 100000 in
theorem lifted (os : Os) (started : os.Started) (H : Type) (enc : TypeId × Value → H) :
    ReturnsInHanded {} Try.checked os 9 .any (Rows.nodeSplitsSpec.pre6 enc Try.prog Try.f9 Rows.nodeSplitsRow.domain false) (Rows.nodeSplitsSpec.post enc Try.prog Try.f9 false true false false) := by
  refine returnsInHanded_of_change (C := Try.checked) own started (by kernel_rfl) Try.func9
    (ChangeSpec.witness6 (enc := enc) (C := Try.checked) false ⟨#[], #[.agg #[.slice none 0 0, .slice none 0 0, .slice none 0 0], .agg #[.slice none 0 0, .slice none 0 0, .slice none 0 0], .string ByteArray.empty], []⟩ 8 (by kernel_rfl) (by kernel_rfl) (by kernel_rfl) (by kernel_rfl)) ?_
  intro W base args ds gs before hval0 hW hcnd _
  have hval : ∀ (j : Nat) t v, Try.f9.params[j]? = some t → args[j]? = some v → Value.okWide Try.prog W .any base t v := hval0
  have hW' := hW
  have hltW := fun p hp => hW'.lt p hp
  obtain ⟨p, q, hA0, hV, rfl, hfz, hnd⟩ := hW
  have hA : DataW.TrodAll enc Try.prog W 0 (fun _ => true) true Try.f9.params.toList args.toList ds p := hA0
  rw [Try.params9] at hA hval
  obtain ⟨v0, vs0, d0, ds0, p0, q0, hargs, rfl, rfl, h0, r0⟩ := trodAll_cons hA
  obtain ⟨v1, vs1, d1, ds1, p1, q1, rfl, rfl, rfl, h1, r1⟩ := trodAll_cons r0
  obtain ⟨v2, vs2, d2, ds2, p2, q2, rfl, rfl, rfl, h2, r2⟩ := trodAll_cons r1
  obtain ⟨rfl, rfl, rfl⟩ := trodAll_nil r2
  obtain rfl : args = #[v0, v1, v2] := by cases args; simp_all
  obtain ⟨rfl, rfl⟩ := trodVars_none hV
  have hk0 := h0
  obtain ⟨A0, c0, l0, B0, e0, m0, D0, f0, n0, rfl, w0⟩ := node_of (hval 0 26 v0 rfl rfl) h0
  have hk1 := h1
  obtain ⟨A1, c1, l1, B1, e1, m1, D1, f1, n1, rfl, w1⟩ := node_of (hval 1 26 v1 rfl rfl) h1
  have hk2 := h2
  obtain ⟨a2, rfl, rfl, rfl, w2⟩ := open_string Try.underlying9 (hval 2 9 v2 rfl rfl) h2
  clear hA0 hval0
  simp only [List.append_nil] at hW' hltW
  refine (nodeSplits_walk ⟨A0, c0, l0, B0, e0, m0, D0, f0, n0⟩ ⟨A1, c1, l1, B1, e1, m1, D1, f1, n1⟩ a2 W ⟨w0.1, w0.2.1, w0.2.2.1, w0.2.2.2.1, w0.2.2.2.2.1, w0.2.2.2.2.2⟩ ⟨w1.1, w1.2.1, w1.2.2.1, w1.2.2.2.1, w1.2.2.2.2.1, w1.2.2.2.2.2⟩).mono fun e W' ⟨he, hg⟩ => ?_
  subst he
  exact ⟨_, rfl, post_of_below (pv := []) hW' (fun _ _ _ => (trodAll_cons_mk (shut_bool Try.underlying4 _) trodAll_mk0)) (fun sp hsp => (trodAll_cons_mk (WideElems.Trod_stays laid (by kernel_rfl) (of_decide_eq_true (by kernel_rfl)) hk0 (fun x hx => hg.same (hltW x (by first | exact absurd hx (by simp) | (simp [hx]; done)))) (fun x hx => hsp x (by first | exact absurd hx (by simp) | (simp [hx]; done)))) (trodAll_cons_mk (WideElems.Trod_stays laid (by kernel_rfl) (of_decide_eq_true (by kernel_rfl)) hk1 (fun x hx => hg.same (hltW x (by first | exact absurd hx (by simp) | (simp [hx]; done)))) (fun x hx => hsp x (by first | exact absurd hx (by simp) | (simp [hx]; done)))) (trodAll_cons_mk (WideElems.Trod_stays laid (by kernel_rfl) (of_decide_eq_true (by kernel_rfl)) hk2 (fun x hx => hg.same (hltW x (by first | exact absurd hx (by simp) | (simp [hx]; done)))) (fun x hx => hsp x (by first | exact absurd hx (by simp) | (simp [hx]; done)))) trodAll_mk0)))) (fun _ _ => rfl) (by simp)
    hg (ok_one (by kernel_rfl) rfl (okWide_bool_mk Try.underlying4 _))⟩

theorem over : Rows.nodeSplitsRow.holds Try.pinned (OpenSpec.ofChange Rows.nodeSplitsSpec) :=
  OpenClaim.holds_of_wide 9 Try.f9 rfl rfl rfl rfl rfl rfl rfl ⟨rfl, rfl, rfl, rfl, rfl⟩ rfl rfl rfl rfl rfl (by kernel_rfl) Try.func9 (by kernel_rfl)
    (of_decide_eq_true (by kernel_rfl)) (by unfold Func.isWrapper; first | (rw [if_pos (by decide +kernel)]; kernel_rfl) | (rw [if_neg (by decide +kernel)]; exact ⟨rfl, rfl⟩))
    (fun os started H enc _ => lifted os started H enc)

/-- The statement. -/
theorem proved : Rows.NodeSplitsSaid :=
  over
end Go.Proofs.Ytejempihaknplaa.nodeSplits
