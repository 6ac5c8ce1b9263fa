/- The helpers of the laws of package meta: shown. -/
import Derived.Test.YtdaoiimjflplhaaMetaP
namespace Go.Proofs.Ytdaoiimjflplhaa
open Go.RowKit Go.Shelf
set_option linter.unusedVariables false

def sD1 : Dk := (Dk.new 8).ms 1 0 2 0
def sD2 : Dk := sD1.ms 2 2 3 0
theorem sD0_load : mloadV (Dk.new 8) = .tuple #[metaZ, .int .i64 40] := by
  unfold mloadV
  rw [hl_two, hm_new 8 0 (by omega), hm_new 8 1 (by omega)]
  rfl
theorem sD2_load : mloadV sD2 = .tuple #[metaV 2 2 3 0, .int .i64 0] := by
  have h : sD2.hl 2 = (2, 2, 3, 0) := by
    unfold sD2
    refine hl_ms sD1 2 2 3 0 (by omega) (by omega) (by omega) (by omega) (by decide) fun k hk2 hk => ?_
    unfold sD1
    rw [hm_ms (Dk.new 8) 1 0 2 0 k (by omega) (by omega) (by omega) (by omega) (by decide)]
    rw [if_pos (by omega)]
    decide
  unfold mloadV
  rw [h]
  rfl

set_option maxRecDepth 100000 in
set_option maxHeartbeats 4000000 in
theorem shown4_any (w : World) : Calls Try.prog 10 #[] w fun e w' => e = .returned (.bool true) ∧ Below w.heap.size w w' := by
  obtain ⟨S, hS⟩ : ∃ S, From w.heap.size [] = S := ⟨_, rfl⟩
  have hS1 : ∀ k, w.heap.size ≤ k → S k := fun k hk => by rw [← hS]; exact ⟨hk, by simp⟩
  have hS2 : ∀ k, S k → w.heap.size ≤ k := fun k hk => by rw [← hS] at hk; exact hk.1
  have h1 := new_yes S 8 w (by omega) (by omega) hS1
  rw [show ((8 : Nat) : Int) = 8 from rfl] at h1
  have h2 : ∀ g W, Held S W g (Dk.new 8) → Calls Try.prog 23 #[.pointer (some ⟨g, 0, none⟩)] W fun e w' => e = .returned (.tuple #[.agg #[.int .u64 0, .int .u32 0, .int .u32 0, .int .u32 0], .int .i64 40]) ∧ Below W.heap.size W w' := fun g W hd => by
    have h := mload_ok S g (Dk.new 8) W hd (by simp [Dk.new])
    rw [sD0_load] at h
    exact h
  have h3 : ∀ g W, Held S W g (Dk.new 8) → w.heap.size ≤ W.heap.size → Calls Try.prog 19 #[.pointer (some ⟨g, 0, none⟩), .agg #[.int .u64 1, .int .u32 0, .int .u32 2, .int .u32 0]] W fun e w' => e = .returned (.int .i64 0) ∧ Held S w' g sD1 ∧ Chg S W w' := fun g W hd hw => by
    have h := mstore_any S g (Dk.new 8) 1 0 2 0 W hd (by omega) (by omega) (by omega) (by omega) (by simp [Dk.new]) (by simp [Dk.new]) (fun k hk => hS1 k (by omega))
    rw [mstore_ok _ _ _ _ _ (by decide) (by simp [Dk.new])] at h
    exact h
  have h4 : ∀ g W, Held S W g sD1 → w.heap.size ≤ W.heap.size → Calls Try.prog 19 #[.pointer (some ⟨g, 0, none⟩), .agg #[.int .u64 2, .int .u32 2, .int .u32 3, .int .u32 0]] W fun e w' => e = .returned (.int .i64 0) ∧ Held S w' g sD2 ∧ Chg S W w' := fun g W hd hw => by
    have h := mstore_any S g sD1 2 2 3 0 W hd (by omega) (by omega) (by omega) (by omega) (by simp [sD1, Dk.ms, Dk.new]) (by simp [sD1, Dk.ms, Dk.new]) (fun k hk => hS1 k (by omega))
    rw [mstore_ok _ _ _ _ _ (by decide) (by simp [sD1, Dk.ms, Dk.new])] at h
    exact h
  have h5 : ∀ g W, Held S W g sD2 → Calls Try.prog 23 #[.pointer (some ⟨g, 0, none⟩)] W fun e w' => e = .returned (.tuple #[.agg #[.int .u64 2, .int .u32 2, .int .u32 3, .int .u32 0], .int .i64 0]) ∧ Below W.heap.size W w' := fun g W hd => by
    have h := mload_ok S g sD2 W hd (by simp [sD2, sD1, Dk.ms, Dk.new])
    rw [sD2_load] at h
    exact h
  have H1 := Lib.hid h1
  have H2 := Lib.hid h2
  have H3 := Lib.hid h3
  have H4 := Lib.hid h4
  have H5 := Lib.hid h5
  have HS := Lib.hid hS2
  clear h1 h2 h3 h4 h5 hS hS1 hS2
  go_enter Try.func10, Try.ntmps10
  go_wp2_with fail
  refine H1.out.mono ?_
  rintro e w1 ⟨g, rfl, hg, hd1, hb1⟩
  have K1 := Lib.hid (And.intro hd1 hb1)
  clear hd1 hb1 hg
  go_wp2_with fail
  refine (H2.out g _ K1.out.1).mono ?_
  rintro e w2 ⟨rfl, hb2⟩
  have K2 := Lib.hid (And.intro (K1.out.1.below hb2) (bl_tr K1.out.2 hb2))
  clear hb2
  go_wp2_with fail
  refine (H3.out g _ (K2.out.1.alloc _) (bl_al K2.out.2 _).size).mono ?_
  rintro e w3 ⟨rfl, hd3, hc3⟩
  have K3 := Lib.hid (And.intro hd3 ((bl_al K2.out.2 _).trans (hc3.below HS.out (bl_al K2.out.2 _).size)))
  clear hd3 hc3
  go_wp2_with fail
  refine (H4.out g _ K3.out.1 K3.out.2.size).mono ?_
  rintro e w4 ⟨rfl, hd4, hc4⟩
  have K4 := Lib.hid (And.intro hd4 (K3.out.2.trans (hc4.below HS.out K3.out.2.size)))
  clear hd4 hc4
  go_wp2_with fail
  refine (H5.out g _ K4.out.1).mono ?_
  rintro e w5 ⟨rfl, hb5⟩
  have K5 := Lib.hid (bl_tr K4.out.2 hb5)
  clear hb5
  go_wp2
  go_ret
  exact ⟨rfl, bl_al K5.out _⟩
end Go.Proofs.Ytdaoiimjflplhaa
