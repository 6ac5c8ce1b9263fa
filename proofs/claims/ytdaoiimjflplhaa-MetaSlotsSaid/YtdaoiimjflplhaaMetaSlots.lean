/- MetaSlots: a store touches one sector alone. -/
import Derived.Test.YtdaoiimjflplhaaLawM
import Derived.BigQuiet
namespace Go.Proofs.Ytdaoiimjflplhaa
open Go.RowKit Go.Shelf
set_option linter.unusedVariables false

set_option maxRecDepth 100000 in
set_option maxHeartbeats 4000000 in
theorem metaSlots_walk (t r h f : Nat) (w : World) (ht : t < 18446744073709551616) (hr : r < 4294967296) (hh : h < 4294967296) (hf : f < 4294967296) :
    Calls Try.prog 8 #[metaV t r h f] w fun e w' => e = .returned (.bool true) ∧ Below w.heap.size w w' := by
  obtain ⟨S, hS⟩ : ∃ S, From (w.heap.size + 1) [] = S := ⟨_, rfl⟩
  have hS1 : ∀ k, w.heap.size + 1 ≤ k → S k := fun k hk => by rw [← hS]; exact ⟨hk, by simp⟩
  have hS2 : ∀ k, S k → w.heap.size + 1 ≤ k := fun k hk => by rw [← hS] at hk; exact hk.1
  have H0 := Lib.hid (fun w => shown4_any w)
  have h1 := fun W (hW : w.heap.size + 1 ≤ W.heap.size) => new_yes S 8 W (by omega) (by omega) (fun k hk => hS1 k (by omega))
  rw [show ((8 : Nat) : Int) = 8 from rfl] at h1
  have h3 : ∀ g W, Held S W g (Dk.new 8) → w.heap.size + 1 ≤ W.heap.size → Calls Try.prog 19 #[.pointer (some ⟨g, 0, none⟩), .agg #[.int .u64 (t : Int), .int .u32 (r : Int), .int .u32 (h : Int), .int .u32 (f : Int)]] W fun e w' => e = .returned (.int .i64 ((Dk.new 8).mstore t r h f).1) ∧ Held S w' g ((Dk.new 8).mstore t r h f).2 ∧ Chg S W w' := fun g W hd hw => mstore_any S g (Dk.new 8) t r h f W hd ht hr hh hf (by simp [Dk.new]) (by simp [Dk.new]) (fun k hk => hS1 k (by omega))
  have hB := Blk.new w 25 #[.int .u64 (t : Int), .int .u32 (r : Int), .int .u32 (h : Int), .int .u32 (f : Int)]
  have HB := Lib.hid hB
  have H1 := Lib.hid h1
  have HS := Lib.hid hS2
  clear hB h1 hS hS1 hS2
  unfold metaV
  cases hR : mRightB t r h f with
  | false =>
    rw [mstore_no _ _ _ _ _ hR] at h3
    have H3 := Lib.hid h3
    clear h3 ht hr hh hf hR
    go_enter Try.func8, Try.ntmps8
    go_wp2_with fail
    refine (H0.out _).mono ?_
    rintro e w1 ⟨rfl, hb1⟩
    have b1 := HB.out.below hb1 (by simp)
    have hlt := b1.lt
    have G1 := Lib.hid (And.intro b1 ((bl_al (bl_re w) _).trans (hb1.mono (by simp))))
    clear hb1 b1
    go_wp2_with fail
    refine (H1.out _ (by omega)).mono ?_
    rintro e w2 ⟨g, rfl, hg, hd2, hb2⟩
    have b2 := G1.out.1.below hb2 hlt
    have c0 : w2.cell? ⟨w.heap.size, 0, none⟩ = some (.int .u64 (t : Int)) := b2.cell 0
    have c1 : w2.cell? ⟨w.heap.size, 1, none⟩ = some (.int .u32 (r : Int)) := b2.cell 1
    have c2 : w2.cell? ⟨w.heap.size, 2, none⟩ = some (.int .u32 (h : Int)) := b2.cell 2
    have c3 : w2.cell? ⟨w.heap.size, 3, none⟩ = some (.int .u32 (f : Int)) := b2.cell 3
    have hlt2 := b2.lt
    have G2 := Lib.hid (And.intro hd2 (bl_tr G1.out.2 hb2))
    clear hd2 hb2 b2 hg
    go_wp2_with fail
    refine (H3.out g _ G2.out.1 (by omega)).mono ?_
    rintro e w3 ⟨rfl, hd3, hc3⟩
    have G3 := Lib.hid (And.intro hd3 (G2.out.2.trans ((hc3.below HS.out (by omega)).mono (by omega))))
    clear hd3 hc3 c0 c1 c2 c3
    go_wp2_with fail
    refine (unsynced_any S g _ _ G3.out.1).mono ?_
    rintro e w4 ⟨so, cap, rfl, hown, hb4⟩
    have G4 := Lib.hid (bl_tr G3.out.2 hb4)
    have e0 : (Dk.new 8).U.length = 0 := rfl
    clear hown hb4
    rw [e0]
    go_wp2
    go_ret
    exact ⟨rfl, G4.out⟩
  | true =>
    rw [mstore_ok _ _ _ _ _ hR (by simp [Dk.new])] at h3
    have H3 := Lib.hid h3
    have e1 : IntKind.i64.wrap ((t % 2 : Nat) : Int) = (t % 2 : Nat) := IntWalk.i64_in _ (by omega)
    have e2 : IntKind.i64.wrap (4 * ((t % 2 : Nat) : Int)) = 4 * ((t % 2 : Nat) : Int) := IntWalk.i64_in _ (by omega)
    clear h3 ht hr hh hf hR
    go_enter Try.func8, Try.ntmps8
    go_wp2_with fail
    refine (H0.out _).mono ?_
    rintro e w1 ⟨rfl, hb1⟩
    have b1 := HB.out.below hb1 (by simp)
    have hlt := b1.lt
    have G1 := Lib.hid (And.intro b1 ((bl_al (bl_re w) _).trans (hb1.mono (by simp))))
    clear hb1 b1
    go_wp2_with fail
    refine (H1.out _ (by omega)).mono ?_
    rintro e w2 ⟨g, rfl, hg, hd2, hb2⟩
    have b2 := G1.out.1.below hb2 hlt
    have c0 : w2.cell? ⟨w.heap.size, 0, none⟩ = some (.int .u64 (t : Int)) := b2.cell 0
    have c1 : w2.cell? ⟨w.heap.size, 1, none⟩ = some (.int .u32 (r : Int)) := b2.cell 1
    have c2 : w2.cell? ⟨w.heap.size, 2, none⟩ = some (.int .u32 (h : Int)) := b2.cell 2
    have c3 : w2.cell? ⟨w.heap.size, 3, none⟩ = some (.int .u32 (f : Int)) := b2.cell 3
    have hlt2 := b2.lt
    have G2 := Lib.hid (And.intro b2 (And.intro hd2 (bl_tr G1.out.2 hb2)))
    clear hd2 hb2 b2 hg
    go_wp2_with fail
    refine (H3.out g _ G2.out.2.1 (by omega)).mono ?_
    rintro e w3 ⟨rfl, hd3, hc3⟩
    have hbc := hc3.below HS.out (by omega)
    have G3 := Lib.hid (And.intro (G2.out.1.below hbc (by omega)) (And.intro hd3 (G2.out.2.2.trans (hbc.mono (by omega)))))
    clear hd3 hc3 c0 c1 c2 c3 hbc
    go_wp2_with fail
    refine (unsynced_any S g _ _ G3.out.2.1).mono ?_
    rintro e w4 ⟨so, cap, rfl, hown, hb4⟩
    have b4 := G3.out.1.below hb4 G3.out.1.lt
    have c0 : w4.cell? ⟨w.heap.size, 0, none⟩ = some (.int .u64 (t : Int)) := b4.cell 0
    have G4 := Lib.hid (bl_tr G3.out.2.2 hb4)
    have e0 : ((Dk.new 8).ms t r h f).U.length = 1 := by simp [Dk.ms, Dk.new]
    have e3 : unsV ((Dk.new 8).ms t r h f).U = [.int .i64 ((4 * (t % 2) : Nat) : Int)] := by simp [Dk.ms, Dk.new, unsV]
    rw [e0, e3, show ((4 * (t % 2) : Nat) : Int) = 4 * ((t : Int) % 2) by omega] at hown
    rw [e0]
    obtain ⟨gg, cp, hform, _, hgl⟩ := hown.form (by omega)
    simp only [Value.slice.injEq] at hform
    obtain ⟨rfl, _, rfl⟩ := hform
    have q0 : w4.cell? ⟨gg, 0, none⟩ = some (.int .i64 (4 * ((t : Int) % 2))) := by
      rw [hown.cellAt 0 (by omega)]
      rfl
    clear hown b4 hb4 e0 e3
    go_wp2_with fail
    go_quiet (fail)
    go_wp2
    go_ret
    exact ⟨rfl, bl_dN G4.out _⟩
end Go.Proofs.Ytdaoiimjflplhaa
