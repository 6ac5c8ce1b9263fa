/- The end of a function whose first result is a node in a variable of its own. No condition. -/
import Derived.Test.YtejempihaknplaaNdM
import Derived.Test.YtejempihaknplaaRow
namespace Go.Proofs.Ytejempihaknplaa.G
open Go.RowKit
theorem rowT_node : RowT Try.prog 26 3 := ⟨_, Try.underlying26, rfl, by kernel_rfl⟩
/-- The end of a function whose first result lies in a variable of its own, a node. -/
theorem post_node {fn : Func} {p q : Tmp} {R : Ending → World → Prop} {a : Act} {W : World} {g : Nat} {v0 v1 v2 v : Value} (h : fn.results = #[.cell p 26, .tmp q]) (hB : Blk W g 26 #[v0, v1, v2]) (hd : a.defers = [])
    (hp : a.tmps.getD p undef = .pointer (some ⟨g, 0, none⟩)) (hq : a.tmps.getD q undef = v) (hR : R (.returned (.tuple #[.agg #[v0, v1, v2], v])) W) : bodyPost Try.prog fn R .ret a W := by
  obtain ⟨d, hu, hdd, hi⟩ := rowT_node
  have hc : W.rangeAt g 0 [v0, v1, v2] := rangeAt_row hB _ fun j v hj => by simpa using hj
  have hp' : a.tmps[p]?.getD undef = .pointer (some ⟨g, 0, none⟩) := by simpa using hp
  have hq' : a.tmps[q]?.getD undef = v := by simpa using hq
  refine bodyPost_ret (v := .tuple #[.agg #[v0, v1, v2], v]) ?_ hd hR
  simp [results, h, hp', hq', asAddr, run_loadVar_mid _ g 0 _ [v0, v1, v2] d hc hu hdd hi]
end Go.Proofs.Ytejempihaknplaa.G
