/- The helper after of the laws of package meta. -/
import Derived.Test.YtdaoiimjflplhaaLawM
import Derived.Test.YtdaoiimjflplhaaArgsM
namespace Go.Proofs.Ytdaoiimjflplhaa
open Go.RowKit Go.Shelf
set_option linter.unusedVariables false

set_option maxRecDepth 100000 in
set_option maxHeartbeats 1000000 in
theorem after_any (a r h f t : Nat) (w : World) :
    Calls Try.prog 25 #[.agg #[.int .u64 (a : Int), .int .u32 (r : Int), .int .u32 (h : Int), .int .u32 (f : Int)], .int .u64 (t : Int)] w fun e w' => e = .returned (.agg #[.int .u64 (t : Int), .int .u32 (r : Int), .int .u32 (h : Int), .int .u32 (f : Int)]) ∧ Below w.heap.size w w' := by
  go_enter Try.func25, Try.ntmps25
  go_wp2
  exact bodyPost_ret (v := .agg #[.int .u64 (t : Int), .int .u32 (r : Int), .int .u32 (h : Int), .int .u32 (f : Int)]) (by simp [results, Try.results25, go_sem]) rfl ⟨rfl, bl_al (bl_al (bl_re w) _) _⟩
end Go.Proofs.Ytdaoiimjflplhaa
