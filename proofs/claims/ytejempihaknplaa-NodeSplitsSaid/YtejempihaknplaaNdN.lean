/- Nodes as they lie in a heap, to be read; the calls that only read them. -/
import Derived.Test.YtejempihaknplaaHEncode
import Derived.Test.YtejempihaknplaaNdKp
import Derived.Deep.RegionHeld3
namespace Go.Proofs.Ytejempihaknplaa.G
open Go.RowKit Go.Proofs.YtejempihaknplaaW.PrintWords Go.Proofs.YtejempihaknplaaW.PrintLast Go.Proofs.YtejempihaknplaaW.PrintMore
set_option linter.unusedVariables false

/-- A node: where its three slices lie, and what they hold. -/
structure Nd where
  A0 : Option Addr
  c0 : Nat
  ps : List S39
  A1 : Option Addr
  c1 : Nat
  ks : List ByteArray
  A2 : Option Addr
  c2 : Nat
  kd : List Int
abbrev Nd.v0 (x : Nd) : Value := .slice x.A0 x.ps.length x.c0
abbrev Nd.v1 (x : Nd) : Value := .slice x.A1 x.ks.length x.c1
abbrev Nd.v2 (x : Nd) : Value := .slice x.A2 x.kd.length x.c2
/-- It lies so in the heap w. -/
structure Nd.At (x : Nd) (w : World) : Prop where
  p : Kd.C k39 w x.A0 x.ps.length x.ps
  pc : x.ps.length ≤ x.c0
  k : Kd.C Kd.string w x.A1 x.ks.length x.ks
  kc : x.ks.length ≤ x.c1
  d : Kd.C (Kd.int .u32) w x.A2 x.kd.length x.kd
  dc : x.kd.length ≤ x.c2
theorem Nd.At.below {x : Nd} {w w' : World} (h : x.At w) (hb : Below w.heap.size w w') : x.At w' := ⟨Kd.C_below h.p hb, h.pc, Kd.C_below h.k hb, h.kc, Kd.C_below h.d hb, h.dc⟩
theorem Nd.At.drew {x : Nd} {w : World} (h : x.At w) : x.At w.drew := h.below (Below.refl w.heap.size w).drew
def Nd.small (x : Nd) : Prop := smallB x.ps x.ks x.kd = true
def Nd.right (x : Nd) : Bool := rightB x.ps x.ks x.kd
def Nd.size (x : Nd) : Nat := sizeN x.ps x.ks x.kd

theorem nright_any (x : Nd) (w : World) (h : x.At w) (hs : x.small) : Calls Try.prog 14 #[.agg #[x.v0, x.v1, x.v2]] w fun e w' => e = .returned (.bool x.right) ∧ Below w.heap.size w w' :=
  node_Right.calls 1000000 x.A0 x.c0 x.ps x.A1 x.c1 x.ks x.A2 x.c2 x.kd _ w h.p h.pc h.k h.kc h.d h.dc (right_eq x.ps x.ks x.kd hs 1000000 (by omega))
theorem nsize_any (x : Nd) (w : World) (h : x.At w) (hs : x.small) (hr : x.right = true) : Calls Try.prog 16 #[.agg #[x.v0, x.v1, x.v2]] w fun e w' => e = .returned (.int .i64 (x.size : Int)) ∧ Below w.heap.size w w' :=
  node_Size.calls x.A0 x.c0 x.ps x.A1 x.c1 x.ks x.A2 x.c2 x.kd _ w h.p h.pc h.k h.kc h.d h.dc (by unfold node_Size.f; rw [if_pos (show smallB x.ps x.ks x.kd = true from hs), if_pos (show rightB x.ps x.ks x.kd = true from hr)]; rfl)

set_option maxRecDepth 100000 in
set_option maxHeartbeats 1000000 in
/-- The size of the larger one. -/
theorem nmost_any (a b : Nd) (key : ByteArray) (w : World) (ha : a.At w) (hb : b.At w) (sa : a.small) (sb : b.small) (ra : a.right = true) (rb : b.right = true) :
    Calls Try.prog 51 #[.agg #[a.v0, a.v1, a.v2, b.v0, b.v1, b.v2, .string key]] w fun e w' => e = .returned (.int .i64 ((max a.size b.size : Nat) : Int)) ∧ Below w.heap.size w w' := by
  have H1 := Aside0.mk (fun W (hB : Below w.heap.size w W) => nsize_any a W (ha.below hB) sa ra)
  have H2 := Aside0.mk (fun W (hB : Below w.heap.size w W) => nsize_any b W (hb.below hB) sb rb)
  obtain ⟨m, hm⟩ : ∃ m, max a.size b.size = m := ⟨_, rfl⟩
  have HM := Aside0.mk hm
  obtain ⟨p, hp⟩ : ∃ p, a.size = p := ⟨_, rfl⟩
  obtain ⟨q, hq⟩ : ∃ q, b.size = q := ⟨_, rfl⟩
  rw [hp, hq] at HM
  rw [hp] at H1
  rw [hq] at H2
  rw [hm]
  have hmx : max (p : Int) (q : Int) = (m : Int) := by rw [← HM.out]; omega
  clear ha hb sa sb ra rb hm hp hq
  go_enter Try.func51, Try.ntmps51
  go_wp2_with fail
  obtain ⟨W1, hW1⟩ : ∃ W1, w.alloc (.cells #[a.v0, a.v1, a.v2, b.v0, b.v1, b.v2, .string key] 81) = W1 := ⟨_, rfl⟩
  have k1 : W1.heap[w.heap.size]? = some (.cells #[a.v0, a.v1, a.v2, b.v0, b.v1, b.v2, .string key] 81 (0, 0)) := by rw [← hW1]; exact Go.heap_alloc_new w _
  have b1 : Below w.heap.size w W1 := by rw [← hW1]; exact (Below.refl w.heap.size w).alloc (Nat.le_refl _) _
  have q0 : W1.cell? ⟨w.heap.size, 0, none⟩ = some a.v0 := blk_cell k1 0
  have q1 : W1.cell? ⟨w.heap.size, 1, none⟩ = some a.v1 := blk_cell k1 1
  have q2 : W1.cell? ⟨w.heap.size, 2, none⟩ = some a.v2 := blk_cell k1 2
  have q3 : W1.cell? ⟨w.heap.size, 3, none⟩ = some b.v0 := blk_cell k1 3
  have q4 : W1.cell? ⟨w.heap.size, 4, none⟩ = some b.v1 := blk_cell k1 4
  have q5 : W1.cell? ⟨w.heap.size, 5, none⟩ = some b.v2 := blk_cell k1 5
  rw [hW1]
  have HB := Aside0.mk b1
  have K0 := Aside0.mk k1
  clear hW1 k1 b1
  go_region_held3 (fun w' => w'.cell? ⟨w.heap.size, 0, none⟩ = some a.v0 ∧ w'.cell? ⟨w.heap.size, 1, none⟩ = some a.v1 ∧ w'.cell? ⟨w.heap.size, 2, none⟩ = some a.v2 ∧ w'.cell? ⟨w.heap.size, 3, none⟩ = some b.v0 ∧ w'.cell? ⟨w.heap.size, 4, none⟩ = some b.v1 ∧ w'.cell? ⟨w.heap.size, 5, none⟩ = some b.v2)
    (first | go_keep | exact ⟨blk_cell K2.out 0, blk_cell K2.out 1, blk_cell K2.out 2, blk_cell K2.out 3, blk_cell K2.out 4, blk_cell K2.out 5⟩ | exact ⟨blk_cell K1.out 0, blk_cell K1.out 1, blk_cell K1.out 2, blk_cell K1.out 3, blk_cell K1.out 4, blk_cell K1.out 5⟩)
    (first
      | (go_at_call 16; have HB1' := HB1; refine (H2.out _ HB1'.out).mono ?_; rintro e w3 ⟨rfl, hb3⟩; have HB2 := Aside0.mk (HB1'.out.trans (hb3.mono HB1'.out.size)); have K2 := Aside0.mk (blk_below K1.out hb3); clear hb3)
      | (go_at_call 16; refine (H1.out _ HB.out.drew).mono ?_; rintro e w2 ⟨rfl, hb2⟩; have HB1 := Aside0.mk (HB.out.drew.trans (hb2.mono HB.out.size)); have K1 := Aside0.mk (blk_below (blk_drew K0.out) hb2); clear hb2))
  all_goals
    go_wp2
    go_ret
    exact ⟨rfl, HB2.out⟩
end Go.Proofs.Ytejempihaknplaa.G
