/- DiskMany: how many sectors there may be. -/
import Derived.Test.YtmbjbckjfkijmaaLawD1
namespace Go.Proofs.Ytmbjbckjfkijmaa
open Go.RowKit Go.Shelf

set_option maxRecDepth 100000 in
set_option maxHeartbeats 2000000 in
theorem diskMany_walk (n : Int) (w : World) :
    Calls Try.prog 5 #[.int .i64 n] w fun e w' => e = .returned (.bool true) ∧ Below w.heap.size w w' := by
  have H0 := Lib.hid (shown_any w)
  by_cases h1 : n < 65530
  · have d1 : decide (n < 65530) = true := decide_eq_true h1
    go_enter Try.func5, Try.ntmps5
    go_wp2_with fail
    refine H0.out.mono ?_
    rintro e w1 ⟨rfl, hb1⟩
    go_wp2
    go_ret
    exact ⟨rfl, hb1⟩
  have d1 : decide (n < 65530) = false := decide_eq_false h1
  by_cases h2 : 65540 < n
  · have d2 : decide (65540 < n) = true := decide_eq_true h2
    go_enter Try.func5, Try.ntmps5
    go_wp2_with fail
    refine H0.out.mono ?_
    rintro e w1 ⟨rfl, hb1⟩
    go_wp2
    go_ret
    exact ⟨rfl, hb1⟩
  have d2 : decide (65540 < n) = false := decide_eq_false h2
  by_cases h3 : n ≤ 65536
  · obtain ⟨m, rfl⟩ : ∃ m : Nat, n = m := ⟨n.toNat, by omega⟩
    have d3 : decide ((m : Int) ≤ 65536) = true := decide_eq_true h3
    have H1 := Lib.hid (fun w => new_yes (fun k => w.heap.size ≤ k) m w (by omega) (by omega) (fun k hk => hk))
    have H2 := Lib.hid (fun S g (w : World) (h : Held S w g (Dk.new m)) => sectors_any S g (Dk.new m) w h)
    have hl : (Dk.new m).S.length = m := by simp [Dk.new]
    rw [hl] at H2
    clear h1 h2 h3 hl
    go_enter Try.func5, Try.ntmps5
    go_wp2_with fail
    refine H0.out.mono ?_
    rintro e w1 ⟨rfl, hb1⟩
    go_wp2_with fail
    refine (H1.out w1).mono ?_
    rintro e w2 ⟨g, rfl, hg, hh2, hb2⟩
    have G2 := Lib.hid hh2
    clear hh2
    go_wp2_with fail
    refine (H2.out _ _ _ G2.out).mono ?_
    rintro e w3 ⟨rfl, hb3⟩
    go_wp2
    go_ret
    exact ⟨rfl, bl_tr (bl_tr hb1 hb2) hb3⟩
  · have d3 : decide (n ≤ 65536) = false := decide_eq_false h3
    have H1 := Lib.hid (fun w => new_no n w (by omega))
    clear h1 h2 h3
    go_enter Try.func5, Try.ntmps5
    go_wp2_with fail
    refine H0.out.mono ?_
    rintro e w1 ⟨rfl, hb1⟩
    go_wp2_with fail
    refine (H1.out w1).mono ?_
    rintro e w2 ⟨rfl, hb2⟩
    go_wp2
    go_ret
    exact ⟨rfl, bl_tr hb1 hb2⟩
theorem diskMany_law {p : Prop} (n : Int) (_h : p) (w : World) : Calls Try.prog 5 #[.int .i64 n] w fun e w' => e = .returned (.bool true) ∧ Below w.heap.size w w' := diskMany_walk n w
end Go.Proofs.Ytmbjbckjfkijmaa
