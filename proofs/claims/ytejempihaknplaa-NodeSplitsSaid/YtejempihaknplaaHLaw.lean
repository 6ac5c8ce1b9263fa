/- NodeSplits: the walk of the law. Condition: the arguments lie in the heap as nodes. -/
import Derived.Test.YtejempihaknplaaHRj
import Derived.Test.YtejempihaknplaaNdH
import Derived.Test.YtejempihaknplaaGL
namespace Go.Proofs.Ytejempihaknplaa.G
open Go.RowKit Go.Proofs.YtejempihaknplaaW.PrintWords Go.Proofs.YtejempihaknplaaW.PrintLast Go.Proofs.YtejempihaknplaaW.PrintMore
set_option linter.unusedVariables false
set_option linter.unusedSimpArgs false

theorem lcut_any (x : Nd) (w : World) (h : x.At w) : Calls Try.prog 11 #[.agg #[x.v0, x.v1, x.v2]] w fun e w' => ∃ y : Nd, e = .returned (.agg #[y.v0, y.v1, y.v2]) ∧ y.Own w' w.heap.size ∧ y.cut ∧ Below w.heap.size w w' := by
  refine (bazaarlaw06_cut.calls 2000 x.A0 x.c0 x.ps x.A1 x.c1 x.ks x.A2 x.c2 x.kd _ _ _ w h.p h.pc h.k h.kc h.d h.dc (cut_eq _ _ _ 2000 (by omega))).mono ?_
  rintro e w' ⟨v0, v1, v2, rfl, r0, r1, r2, hb⟩
  obtain ⟨A0, c0, rfl, _⟩ := Kd.R_reads r0
  obtain ⟨A1, c1, rfl, _⟩ := Kd.R_reads r1
  obtain ⟨A2, c2, rfl, _⟩ := Kd.R_reads r2
  exact ⟨⟨A0, c0, cutP x.ps, A1, c1, cutK x.ks, A2, c2, cutD x.kd⟩, rfl, ⟨r0, r1, r2⟩, cut_cut _ _ _, hb⟩
theorem ltext_any (s : ByteArray) (w : World) : Calls Try.prog 19 #[.string s] w fun e w' => e = .returned (.string (txt s)) ∧ Below w.heap.size w w' := bazaarlaw06_text.calls s _ w (text_eq s)
theorem lshown_any (w : World) : Calls Try.prog 10 #[] w fun e w' => e = .returned (.bool true) ∧ Below w.heap.size w w' := bazaarlaw06_shown.calls true w shown_eq rfl
theorem same_any (x y : Nd) (w : World) (hx : x.At w) (hy : y.At w) (e : x.ps = y.ps ∧ x.ks = y.ks ∧ x.kd = y.kd) (sx : x.small) : Calls Try.prog 26 #[.agg #[x.v0, x.v1, x.v2], .agg #[y.v0, y.v1, y.v2]] w fun e w' => e = .returned (.bool true) ∧ Below w.heap.size w w' := by
  have hs := sx
  simp only [Nd.small, smallB, Bool.and_eq_true, decide_eq_true_eq] at hs
  refine bazaarref06_Same.calls 1000000 x.A0 x.c0 x.ps x.A1 x.c1 x.ks x.A2 x.c2 x.kd y.A0 y.c0 y.ps y.A1 y.c1 y.ks y.A2 y.c2 y.kd true w hx.p hx.pc hx.k hx.kc hx.d hx.dc hy.p hy.pc hy.k hy.kc hy.d hy.dc ?_
  rw [← e.1, ← e.2.1, ← e.2.2]
  exact same_eq _ _ _ (by omega) (by omega) (by omega) 1000000 (by omega)
theorem split_same {x a b c d : Nd} {k j : ByteArray} {e f : Int} (h1 : SplitIs x a b k e) (h2 : SplitIs x c d j f) : (a.ps = c.ps ∧ a.ks = c.ks ∧ a.kd = c.kd) ∧ (b.ps = d.ps ∧ b.ks = d.ks ∧ b.kd = d.kd) ∧ k = j ∧ e = f := by
  have h := Eq.trans (show _ = splitR x from h1) (Eq.symm (show _ = splitR x from h2))
  simp only [Prod.mk.injEq] at h
  obtain ⟨h1, h2, h3, h4, h5, h6, h7, h8⟩ := h
  exact ⟨⟨h1, h2, h3⟩, ⟨h4, h5, h6⟩, h7, h8⟩
theorem split_small {x a b : Nd} {k : ByteArray} {e : Int} (h : SplitIs x a b k e) (hs : x.small) : a.small ∧ b.small := by
  unfold SplitIs splitR at h
  split at h
  · have s := cut_smalls (show smallB x.ps x.ks x.kd = true from hs) (x.best (x.count - 2 * x.least))
    simp only [Prod.mk.injEq] at h
    obtain ⟨h1, h2, h3, h4, h5, h6, h7, h8⟩ := h
    unfold Nd.small
    rw [h1, h2, h3, h4, h5, h6]
    exact s
  · simp only [Prod.mk.injEq] at h
    obtain ⟨h1, h2, h3, h4, h5, h6, h7, h8⟩ := h
    unfold Nd.small
    rw [h1, h2, h3, h4, h5, h6]
    exact ⟨rfl, rfl⟩
theorem join_same {x y z u : Nd} {k : ByteArray} {e f : Int} (h1 : JoinIs x y z k e) (h2 : JoinIs x y u k f) : (z.ps = u.ps ∧ z.ks = u.ks ∧ z.kd = u.kd) ∧ e = f := by
  have h := Eq.trans (show _ = joinR x y k from h1) (Eq.symm (show _ = joinR x y k from h2))
  simp only [Prod.mk.injEq] at h
  obtain ⟨h1, h2, h3, h4⟩ := h
  exact ⟨⟨h1, h2, h3⟩, h4⟩
theorem join_small {x y z : Nd} {k : ByteArray} {e : Int} (h : JoinIs x y z k e) : z.small := by
  unfold JoinIs joinR at h
  split at h
  · next hr =>
    simp only [Prod.mk.injEq] at h
    obtain ⟨h1, h2, h3, h4⟩ := h
    have h5 := hr.2.2.2
    rw [← h1, ← h2, ← h3] at h5
    have h6 := right_sizes (x := z) h5
    exact smallB_mk (by omega) (by omega) (by omega)
  · simp only [Prod.mk.injEq] at h
    obtain ⟨h1, h2, h3, h4⟩ := h
    unfold Nd.small
    rw [h1, h2, h3]
    rfl
/-- Nodes in blocks of their own. -/
structure LsI (w : World) (l : List (Nat × Nd)) (W : World) : Prop where
  bs : ∀ p ∈ l, W.heap[p.1]? = some (.cells #[p.2.v0, p.2.v1, p.2.v2] 26 (0, 0)) ∧ p.2.At W
  bel : Below w.heap.size w W
theorem LsI.below {w W W' : World} {l : List (Nat × Nd)} (h : LsI w l W) (hb : Below W.heap.size W W') : LsI w l W' :=
  ⟨fun p hp => ⟨blk_below (h.bs p hp).1 hb, (h.bs p hp).2.below hb⟩, h.bel.trans (hb.mono h.bel.size)⟩
theorem LsI.push {w W W' : World} {l : List (Nat × Nd)} {g : Nat} {z : Nd} (h : LsI w l W) (hb : Below W.heap.size W W') (hz : z.At W') (b : W'.heap[g]? = some (.cells #[z.v0, z.v1, z.v2] 26 (0, 0))) : LsI w ((g, z) :: l) W' := by
  have h' := h.below hb
  refine ⟨fun p hp => ?_, h'.bel⟩
  rcases List.mem_cons.1 hp with rfl | hp
  · exact ⟨b, hz⟩
  · exact h'.bs p hp
theorem lsi_two {w w7 : World} {l : List (Nat × Nd)} {a b : Nd} (h : LsI w l w7) (ha : a.At w7) (hb : b.At w7) :
    LsI w ((w7.heap.size + 1, b) :: (w7.heap.size, a) :: l) ((w7.alloc (.cells #[a.v0, a.v1, a.v2] 26)).alloc (.cells #[b.v0, b.v1, b.v2] 26)) := by
  have k1 := blk_new (w7.alloc (.cells #[a.v0, a.v1, a.v2] 26)) (.cells #[b.v0, b.v1, b.v2] 26)
  rw [World.size_alloc] at k1
  have b1 := (Below.refl w7.heap.size w7).alloc (Nat.le_refl _) (.cells #[a.v0, a.v1, a.v2] 26)
  have b2 := (Below.refl (w7.alloc (.cells #[a.v0, a.v1, a.v2] 26)).heap.size _).alloc (Nat.le_refl _) (.cells #[b.v0, b.v1, b.v2] 26)
  have h1 : LsI w ((w7.heap.size, a) :: l) (w7.alloc (.cells #[a.v0, a.v1, a.v2] 26)) := h.push b1 (ha.below b1) (blk_new w7 _)
  exact h1.push b2 ((hb.below b1).below b2) k1
theorem lsi_put {w W0 W : World} {l : List (Nat × Nd)} {g : Nat} {z : Nd} {b : Nat} (h : LsI w l W0) (hb : Below W0.heap.size W0 W) (hg : W0.heap.size ≤ g) (hz : z.Own W b) (k : W.heap[g]? = some (.cells #[.slice none 0 0, .slice none 0 0, .slice none 0 0] 26 (0, 0))) :
    LsI w ((g, z) :: l) (((W.setCell ⟨g, 0, none⟩ z.v0).setCell ⟨g, 1, none⟩ z.v1).setCell ⟨g, 2, none⟩ z.v2) :=
  h.push (below_set3 hb hg) (hz.set3 k).at_ (blk_set3 k)
def lSpl.T6 : Bool × List (List Nat × List Nat) := (true, [([], []), ([], []), ([1], [1]), ([], []), ([0, 2, 3, 2], [0, 2, 3]), ([4], [4]), ([5], [5]), ([5], [5]), ([], []), ([8, 6, 4, 0, 1, 2, 3, 4, 5, 6, 8], [6, 8]), ([7, 9, 0, 1, 2, 3, 4, 5, 6, 7, 8, 9], [7])])
def lSpl.B6 : List Nat := [0, 0, 2, 0, 15, 31, 63, 63, 0, 383, 1023]
theorem lSpl.tab6 : rtab .any (opsOf Try.f9 6) = lSpl.T6 := by kernel_rfl
theorem lSpl.bits6 : waitsOk lSpl.T6.2 lSpl.B6 = true := by kernel_rfl
def lSpl.T7 : Bool × List (List Nat × List Nat) := (true, [([], []), ([], []), ([1], [1]), ([], []), ([0, 2, 3, 2], [0, 2, 3]), ([4], [4]), ([5], [5]), ([5], [5]), ([], []), ([8, 6, 4, 0, 1, 2, 3, 4, 5, 6, 8], [6, 8]), ([7, 9, 0, 1, 2, 3, 4, 5, 6, 7, 8, 9], [7])])
def lSpl.B7 : List Nat := [0, 0, 2, 0, 15, 31, 63, 63, 0, 383, 1023]
theorem lSpl.tab7 : rtab .any (opsOf Try.f9 7) = lSpl.T7 := by kernel_rfl
theorem lSpl.bits7 : waitsOk lSpl.T7.2 lSpl.B7 = true := by kernel_rfl

set_option maxRecDepth 100000 in
set_option maxHeartbeats 8000000 in
theorem nodeSplits_walk (n m : Nd) (key : ByteArray) (w : World) (hn : n.At w) (hm : m.At w) :
    Calls Try.prog 9 #[.agg #[n.v0, n.v1, n.v2], .agg #[m.v0, m.v1, m.v2], .string key] w fun e w' => e = .returned (.bool true) ∧ Below w.heap.size w w' := by
  have HA := Aside0.mk (And.intro hn hm)
  clear hn hm
  go_enter Try.func9, Try.ntmps9
  go_wp2_with fail
  obtain ⟨W1, hW1⟩ : ∃ W1, (w.alloc (.cells #[n.v0, n.v1, n.v2] 26)).alloc (.cells #[m.v0, m.v1, m.v2] 26) = W1 := ⟨_, rfl⟩
  have H1 := Aside0.mk (show W1.heap[w.heap.size]? = some (.cells #[n.v0, n.v1, n.v2] 26 (0, 0)) ∧ W1.heap[w.heap.size + 1]? = some (.cells #[m.v0, m.v1, m.v2] 26 (0, 0)) ∧ Below w.heap.size w W1 by
    have k1 := blk_new (w.alloc (.cells #[n.v0, n.v1, n.v2] 26)) (.cells #[m.v0, m.v1, m.v2] 26)
    rw [World.size_alloc] at k1
    rw [← hW1]
    exact ⟨blk_alloc (blk_new w _) _, k1, ((Below.refl w.heap.size w).alloc (Nat.le_refl _) _).alloc (by simp) _⟩)
  rw [hW1]
  clear hW1
  refine (lshown_any W1).mono ?_
  rintro e w2 ⟨rfl, hb2⟩
  have H2 := Aside0.mk (And.intro (blk_below H1.out.1 hb2) (And.intro (blk_below H1.out.2.1 hb2) (H1.out.2.2.trans (hb2.mono H1.out.2.2.size))))
  clear H1 hb2
  have q0 : w2.cell? ⟨w.heap.size, 0, none⟩ = some n.v0 := blk_cell H2.out.1 0
  have q1 : w2.cell? ⟨w.heap.size, 1, none⟩ = some n.v1 := blk_cell H2.out.1 1
  have q2 : w2.cell? ⟨w.heap.size, 2, none⟩ = some n.v2 := blk_cell H2.out.1 2
  go_wp2_with fail
  refine (lcut_any n w2 (HA.out.1.below H2.out.2.2)).mono ?_
  rintro e w3 ⟨x, rfl, ox, cx, hb3⟩
  have H3 := Aside0.mk (And.intro (blk_below H2.out.1 hb3) (And.intro (blk_below H2.out.2.1 hb3) (And.intro (H2.out.2.2.trans (hb3.mono H2.out.2.2.size)) (And.intro (ox.lower H2.out.2.2.size) cx))))
  clear H2 hb3 ox cx q0 q1 q2
  have p0 : w3.cell? ⟨w.heap.size, 0, none⟩ = some n.v0 := blk_cell H3.out.1 0
  have p1 : w3.cell? ⟨w.heap.size, 1, none⟩ = some n.v1 := blk_cell H3.out.1 1
  have p2 : w3.cell? ⟨w.heap.size, 2, none⟩ = some n.v2 := blk_cell H3.out.1 2
  have f0 : w3.frozen? ⟨w.heap.size, 0, none⟩ = false := blk_frozen H3.out.1 0
  have f1 : w3.frozen? ⟨w.heap.size, 1, none⟩ = false := blk_frozen H3.out.1 1
  have f2 : w3.frozen? ⟨w.heap.size, 2, none⟩ = false := blk_frozen H3.out.1 2
  have q0 : w3.cell? ⟨w.heap.size + 1, 0, none⟩ = some m.v0 := blk_cell H3.out.2.1 0
  have q1 : w3.cell? ⟨w.heap.size + 1, 1, none⟩ = some m.v1 := blk_cell H3.out.2.1 1
  have q2 : w3.cell? ⟨w.heap.size + 1, 2, none⟩ = some m.v2 := blk_cell H3.out.2.1 2
  go_wp2_with fail
  obtain ⟨W4, hW4⟩ : ∃ W4, (((w3.setCell ⟨w.heap.size, 0, none⟩ x.v0).setCell ⟨w.heap.size, 1, none⟩ x.v1).setCell ⟨w.heap.size, 2, none⟩ x.v2) = W4 := ⟨_, rfl⟩
  have H4 := Aside0.mk (show W4.heap[w.heap.size]? = some (.cells #[x.v0, x.v1, x.v2] 26 (0, 0)) ∧ W4.heap[w.heap.size + 1]? = some (.cells #[m.v0, m.v1, m.v2] 26 (0, 0)) ∧ Below w.heap.size w W4 ∧ x.Own W4 w.heap.size ∧ x.cut by
    obtain ⟨k0, k1, hb, ox, cx⟩ := H3.out
    rw [← hW4]
    exact ⟨blk_set3 k0, blk_far3 k1 (by omega), below_set3 hb (Nat.le_refl _), ox.set3 k0, cx⟩)
  rw [hW4]
  clear hW4 H3 p0 p1 p2 f0 f1 f2 q0 q1 q2
  refine (lcut_any m W4 (HA.out.2.below H4.out.2.2.1)).mono ?_
  rintro e w5 ⟨y, rfl, oy, cy, hb5⟩
  have H5 := Aside0.mk (And.intro (blk_below H4.out.1 hb5) (And.intro (blk_below H4.out.2.1 hb5) (And.intro (H4.out.2.2.1.trans (hb5.mono H4.out.2.2.1.size)) (And.intro (H4.out.2.2.2.1.below hb5) (And.intro H4.out.2.2.2.2 (And.intro oy cy))))))
  clear H4 hb5 oy cy
  have p0 : w5.cell? ⟨w.heap.size + 1, 0, none⟩ = some m.v0 := blk_cell H5.out.2.1 0
  have p1 : w5.cell? ⟨w.heap.size + 1, 1, none⟩ = some m.v1 := blk_cell H5.out.2.1 1
  have p2 : w5.cell? ⟨w.heap.size + 1, 2, none⟩ = some m.v2 := blk_cell H5.out.2.1 2
  have f0 : w5.frozen? ⟨w.heap.size + 1, 0, none⟩ = false := blk_frozen H5.out.2.1 0
  have f1 : w5.frozen? ⟨w.heap.size + 1, 1, none⟩ = false := blk_frozen H5.out.2.1 1
  have f2 : w5.frozen? ⟨w.heap.size + 1, 2, none⟩ = false := blk_frozen H5.out.2.1 2
  have q0 : w5.cell? ⟨w.heap.size, 0, none⟩ = some x.v0 := blk_cell H5.out.1 0
  have q1 : w5.cell? ⟨w.heap.size, 1, none⟩ = some x.v1 := blk_cell H5.out.1 1
  have q2 : w5.cell? ⟨w.heap.size, 2, none⟩ = some x.v2 := blk_cell H5.out.1 2
  go_wp2_with fail
  obtain ⟨W6, hW6⟩ : ∃ W6, (((w5.setCell ⟨w.heap.size + 1, 0, none⟩ y.v0).setCell ⟨w.heap.size + 1, 1, none⟩ y.v1).setCell ⟨w.heap.size + 1, 2, none⟩ y.v2) = W6 := ⟨_, rfl⟩
  have H6 := Aside0.mk (show LsI w [(w.heap.size, x), (w.heap.size + 1, y)] W6 by
    obtain ⟨k0, k1, hb, ox, cx, oy, cy⟩ := H5.out
    rw [← hW6]
    refine ⟨fun p hp => ?_, below_set3 hb (by omega)⟩
    rcases List.mem_cons.1 hp with rfl | hp
    · exact ⟨blk_far3 k0 (by omega), (ox.set3 k1).at_⟩
    · rcases List.mem_cons.1 hp with rfl | hp
      · exact ⟨blk_set3 k1, (oy.set3 k1).at_⟩
      · cases hp)
  have HCU := Aside0.mk (And.intro H5.out.2.2.2.2.1 H5.out.2.2.2.2.2.2)
  rw [hW6]
  clear hW6 H5 p0 p1 p2 f0 f1 f2 q0 q1 q2 HA
  have HX : ∀ {W l}, LsI w (l ++ [(w.heap.size, x), (w.heap.size + 1, y)]) W → W.heap[w.heap.size]? = some (.cells #[x.v0, x.v1, x.v2] 26 (0, 0)) ∧ x.At W := fun h => h.bs (w.heap.size, x) (by simp)
  have HY : ∀ {W l}, LsI w (l ++ [(w.heap.size, x), (w.heap.size + 1, y)]) W → W.heap[w.heap.size + 1]? = some (.cells #[y.v0, y.v1, y.v2] 26 (0, 0)) ∧ y.At W := fun h => h.bs (w.heap.size + 1, y) (by simp)
  refine (nsplit_any x W6 (HX (l := []) H6.out).2 HCU.out.1.1).mono ?_
  rintro e w7 ⟨a, b, k, err, rfl, ha, hb, hs, hb7⟩
  have H7 := Aside0.mk (And.intro (H6.out.below hb7) (And.intro ha (And.intro hb hs)))
  clear H6 ha hb hs hb7
  go_upto_region 5 with (fail)
  obtain ⟨p, hp⟩ : ∃ p, w7.heap.size = p := ⟨_, rfl⟩
  obtain ⟨W8, hW8⟩ : ∃ W, (w7.alloc (.cells #[a.v0, a.v1, a.v2] 26)).alloc (.cells #[b.v0, b.v1, b.v2] 26) = W := ⟨_, rfl⟩
  have H8 := Aside0.mk (show LsI w [(p + 1, b), (p, a), (w.heap.size, x), (w.heap.size + 1, y)] W8 ∧ SplitIs x a b k err by
    rw [← hW8, ← hp]
    exact ⟨lsi_two H7.out.1 H7.out.2.1 H7.out.2.2.1, H7.out.2.2.2⟩)
  rw [hW8, hp]
  clear hW8 hp H7
  have q0 : W8.cell? ⟨w.heap.size, 0, none⟩ = some x.v0 := blk_cell (HX (l := [_, _]) H8.out.1).1 0
  have q1 : W8.cell? ⟨w.heap.size, 1, none⟩ = some x.v1 := blk_cell (HX (l := [_, _]) H8.out.1).1 1
  have q2 : W8.cell? ⟨w.heap.size, 2, none⟩ = some x.v2 := blk_cell (HX (l := [_, _]) H8.out.1).1 2
  go_wp2_with fail
  refine (rsplit_any x W8 (HX (l := [_, _]) H8.out.1).2 HCU.out.1).mono ?_
  rintro e w9 ⟨c, d, j, er, rfl, hc, hd, hs, hb9⟩
  obtain ⟨hac, hbd, rfl, rfl⟩ := split_same H8.out.2 hs
  obtain ⟨sa, sb⟩ := split_small H8.out.2 HCU.out.1.1
  have H9 := Aside0.mk (And.intro (H8.out.1.below hb9) (And.intro hc hd))
  have HSA := Aside0.mk (And.intro (And.intro hac sa) (And.intro hbd sb))
  clear H8 hc hd hs hb9 hac hbd sa sb q0 q1 q2
  go_upto_region 6 with (fail)
  obtain ⟨q, hq⟩ : ∃ q, w9.heap.size = q := ⟨_, rfl⟩
  obtain ⟨WA, hWA⟩ : ∃ W, (w9.alloc (.cells #[c.v0, c.v1, c.v2] 26)).alloc (.cells #[d.v0, d.v1, d.v2] 26) = W := ⟨_, rfl⟩
  have HW := Aside0.mk (show LsI w [(q + 1, d), (q, c), (p + 1, b), (p, a), (w.heap.size, x), (w.heap.size + 1, y)] WA by
    rw [← hWA, ← hq]
    exact lsi_two H9.out.1 H9.out.2.1 H9.out.2.2)
  rw [hWA, hq]
  clear hWA hq H9
  go_cut [16, 17] (fun v16 v17 wc => ∃ (g : Nat) (z : Nd) (er2 : Int), v16 = .pointer (some ⟨g, 0, none⟩) ∧ v17 = .int .i64 er2 ∧ Aside0 (LsI w [(g, z), (q + 1, d), (q, c), (p + 1, b), (p, a), (w.heap.size, x), (w.heap.size + 1, y)] wc ∧ JoinIs x y z (txt key) er2))
  case first =>
    refine start_ (n := 11) (S := fun W' => Below WA.heap.size WA W') (ds := []) #[false, false, false, false, false, false, false, false, false, false, false] (by kernel_rfl) rfl rfl (Below.refl WA.heap.size WA).drew (fun hHeld => ?_)
    refine with_tabW lSpl.tab6 lSpl.bits6 (fun HT_ HW_ => ?_)
    generalize WA.drew = wd at hHeld ⊢
    refine take_ (i := 0) (N := some 40) (v := ?_) (a' := ?_) #[true, false, false, false, false, false, false, false, false, false, false] rfl rfl (take_ofW HT_.out HW_.out (by kernel_rfl)) (fun _ _ _ h => h) (Or.inl ⟨by rfl, ?_⟩) hHeld ?_ ?_; rotate_left; (intro w' hS; have q0 : w'.cell? ⟨w.heap.size, 0, none⟩ = some x.v0 := blk_cell (HX (l := [_, _, _, _]) (HW.out.below hS)).1 0; have q1 : w'.cell? ⟨w.heap.size, 1, none⟩ = some x.v1 := blk_cell (HX (l := [_, _, _, _]) (HW.out.below hS)).1 1; have q2 : w'.cell? ⟨w.heap.size, 2, none⟩ = some x.v2 := blk_cell (HX (l := [_, _, _, _]) (HW.out.below hS)).1 2; go_simp; with_reducible rfl); rotate_left; (simp only [Act.put, List.setIfInBounds_toArray, List.set_cons_zero, List.set_cons_succ, i64_w, i32_w]; rfl)
    refine pure_ (i := 1) (N := some 41) (v := ?_) (a' := ?_) #[true, true, false, false, false, false, false, false, false, false, false] rfl rfl (any_of HT_.out (by kernel_rfl)) (fun _ _ _ h => h) (Or.inl ⟨by rfl, ?_⟩) ?_ ?_; rotate_left; (intro w'; go_simp; with_reducible rfl); rotate_left; (simp only [Act.put, List.setIfInBounds_toArray, List.set_cons_zero, List.set_cons_succ, i64_w, i32_w]; rfl)
    refine take_ (i := 3) (N := some 43) (v := ?_) (a' := ?_) #[true, true, false, true, false, false, false, false, false, false, false] rfl rfl (take_ofW HT_.out HW_.out (by kernel_rfl)) (fun _ _ _ h => h) (Or.inl ⟨by rfl, ?_⟩) hHeld ?_ ?_; rotate_left; (intro w' hS; have q0 : w'.cell? ⟨w.heap.size + 1, 0, none⟩ = some y.v0 := blk_cell (HY (l := [_, _, _, _]) (HW.out.below hS)).1 0; have q1 : w'.cell? ⟨w.heap.size + 1, 1, none⟩ = some y.v1 := blk_cell (HY (l := [_, _, _, _]) (HW.out.below hS)).1 1; have q2 : w'.cell? ⟨w.heap.size + 1, 2, none⟩ = some y.v2 := blk_cell (HY (l := [_, _, _, _]) (HW.out.below hS)).1 2; go_simp; with_reducible rfl); rotate_left; (simp only [Act.put, List.setIfInBounds_toArray, List.set_cons_zero, List.set_cons_succ, i64_w, i32_w]; rfl)
    refine two_ (i := 2) (j := 8) (Ni := some 42) (Nj := some 16) #[true, true, true, true, false, false, false, false, false, false, false] #[true, true, false, true, false, false, false, false, true, false, false] rfl rfl rfl rfl (two_of HT_.out (by kernel_rfl)) (by decide) (by decide) (fun K hK => ?_) (fun K hK => ?_)
    · refine goes_ Try.func19 (by kernel_rfl) rfl #[.string key] (by rfl) rfl rfl (by (try simp only [List.map_toArray, List.map_cons, List.map_nil]); first | done | rfl) ?_
      refine (ltext_any key wd).mono ?_
      rintro e v2_3 ⟨rfl, hb⟩
      refine ⟨_, rfl, ?_⟩
      refine hK.out _ _ (hHeld.trans (hb.mono hHeld.size)) (fun hHeld => ?_)
      clear hK K hb
      refine norm_ (a' := ?_) ?_ ?_; rotate_left; (show Act.put _ (some 42) _ = _; simp only [Act.put, List.setIfInBounds_toArray, List.set_cons_zero, List.set_cons_succ, i64_w, i32_w]; rfl)
      refine two_ (i := 4) (j := 8) (Ni := some 44) (Nj := some 16) #[true, true, true, true, true, false, false, false, false, false, false] #[true, true, true, true, false, false, false, false, true, false, false] rfl rfl rfl rfl (two_of HT_.out (by kernel_rfl)) (by decide) (by decide) (fun K hK => ?_) (fun K hK => ?_)
      · refine goes_ Try.func29 (by kernel_rfl) rfl #[.agg #[x.v0, x.v1, x.v2], .string (txt key), .agg #[y.v0, y.v1, y.v2]] (by rfl) rfl rfl (by (try simp only [List.map_toArray, List.map_cons, List.map_nil]); first | done | rfl) ?_
        refine (njoin_any x y (txt key) v2_3 (HX (l := [_, _, _, _]) (HW.out.below hHeld)).2 (HY (l := [_, _, _, _]) (HW.out.below hHeld)).2 HCU.out.1.1 HCU.out.2.1).mono ?_
        rintro e v4_4 ⟨z, er2, rfl, oz, hj, hb⟩
        refine ⟨_, rfl, ?_⟩
        have HZ := Aside0.mk (And.intro oz hj)
        refine hK.out _ _ (hHeld.trans (hb.mono hHeld.size)) (fun hHeld => ?_)
        clear hK K hb oz hj
        refine norm_ (a' := ?_) ?_ ?_; rotate_left; (show Act.put _ (some 44) _ = _; simp only [Act.put, List.setIfInBounds_toArray, List.set_cons_zero, List.set_cons_succ, i64_w, i32_w]; rfl)
        refine pure_ (i := 5) (N := some 39) (v := ?_) (a' := ?_) #[true, true, true, true, true, true, false, false, false, false, false] rfl rfl (any_of HT_.out (by kernel_rfl)) (fun _ _ _ h => h) (Or.inl ⟨by rfl, ?_⟩) ?_ ?_; rotate_left; (intro w'; go_simp; with_reducible rfl); rotate_left; (simp only [Act.put, List.setIfInBounds_toArray, List.set_cons_zero, List.set_cons_succ, i64_w, i32_w]; rfl)
        refine pure_ (i := 6) (N := some 45) (v := ?_) (a' := ?_) #[true, true, true, true, true, true, true, false, false, false, false] rfl rfl (any_of HT_.out (by kernel_rfl)) (fun _ _ _ h => h) (Or.inl ⟨by rfl, ?_⟩) ?_ ?_; rotate_left; (intro w'; go_simp; with_reducible rfl); rotate_left; (simp only [Act.put, List.setIfInBounds_toArray, List.set_cons_zero, List.set_cons_succ, i64_w, i32_w]; rfl)
        refine pure_ (i := 7) (N := some 46) (v := ?_) (a' := ?_) #[true, true, true, true, true, true, true, true, false, false, false] rfl rfl (any_of HT_.out (by kernel_rfl)) (fun _ _ _ h => h) (Or.inl ⟨by rfl, ?_⟩) ?_ ?_; rotate_left; (intro w'; go_simp; with_reducible rfl); rotate_left; (simp only [Act.put, List.setIfInBounds_toArray, List.set_cons_zero, List.set_cons_succ, i64_w, i32_w]; rfl)
        refine one_ (i := 8) (N := some 16) #[true, true, true, true, true, true, true, true, true, false, false] rfl rfl (one_of HT_.out (by kernel_rfl)) (by decide) (fun K hK => ?_)
        refine value_ (w1 := v4_4.alloc (.cells #[.slice none 0 0, .slice none 0 0, .slice none 0 0] 26)) (v := .pointer (some ⟨v4_4.heap.size, 0, none⟩)) (by rfl) rfl ?_ ?_
        · go_simp
        have hb := (Below.refl v4_4.heap.size v4_4).alloc (Nat.le_refl _) (.cells #[.slice none 0 0, .slice none 0 0, .slice none 0 0] 26)
        have hN := blk_new v4_4 (.cells #[.slice none 0 0, .slice none 0 0, .slice none 0 0] 26)
        obtain ⟨g, hg⟩ : ∃ n, v4_4.heap.size = n := ⟨_, rfl⟩
        obtain ⟨v8_z, hw⟩ : ∃ W, v4_4.alloc (.cells #[.slice none 0 0, .slice none 0 0, .slice none 0 0] 26) = W := ⟨_, rfl⟩
        rw [hw] at hb hN ⊢
        rw [hg] at hN ⊢
        have HZ' := Aside0.mk (And.intro (HZ.out.1.below hb) HZ.out.2)
        have HK8 := Aside0.mk (And.intro (show WA.heap.size ≤ g by rw [← hg]; exact hHeld.size) hN)
        refine hK.out _ _ (hHeld.trans (hb.mono hHeld.size)) (fun hHeld => ?_)
        clear hK K hb hN hg hw
        clear HZ
        have HZ := HZ'
        clear HZ'
        refine norm_ (a' := ?_) ?_ ?_; rotate_left; (show Act.put _ (some 16) _ = _; simp only [Act.put, List.setIfInBounds_toArray, List.set_cons_zero, List.set_cons_succ, i64_w, i32_w]; rfl)
        refine one_ (i := 9) (N := none) #[true, true, true, true, true, true, true, true, true, true, false] rfl rfl (one_of HT_.out (by kernel_rfl)) (by decide) (fun K hK => ?_)
        have p0 : v8_z.cell? ⟨g, 0, none⟩ = some (.slice none 0 0) := blk_cell HK8.out.2 0
        have f0 : v8_z.frozen? ⟨g, 0, none⟩ = false := blk_frozen HK8.out.2 0
        have p1 : v8_z.cell? ⟨g, 1, none⟩ = some (.slice none 0 0) := blk_cell HK8.out.2 1
        have f1 : v8_z.frozen? ⟨g, 1, none⟩ = false := blk_frozen HK8.out.2 1
        have p2 : v8_z.cell? ⟨g, 2, none⟩ = some (.slice none 0 0) := blk_cell HK8.out.2 2
        have f2 : v8_z.frozen? ⟨g, 2, none⟩ = false := blk_frozen HK8.out.2 2
        refine skip_ (w1 := ?_) (by rfl) rfl ?_ ?_
        rotate_left
        · go_simp
          rfl
        clear p0 p1 p2 f0 f1 f2
        have HF := lsi_put HW.out hHeld HK8.out.1 HZ.out.1 HK8.out.2
        refine hK.out _ _ (below_set3 hHeld HK8.out.1) (fun hHeld => ?_)
        clear hK K
        refine pure_ (i := 10) (N := some 17) (v := ?_) (a' := ?_) #[true, true, true, true, true, true, true, true, true, true, true] rfl rfl (any_of HT_.out (by kernel_rfl)) (fun _ _ _ h => h) (Or.inl ⟨by rfl, ?_⟩) ?_ ?_; rotate_left; (intro w'; go_simp; with_reducible rfl); rotate_left; (simp only [Act.put, List.setIfInBounds_toArray, List.set_cons_zero, List.set_cons_succ, i64_w, i32_w]; rfl)
        refine done_ (done_of HT_.out (by kernel_rfl)) ?_
        go_wp2
        go_meet
        case rel => exact ⟨g, z, er2, rfl, rfl, Aside0.mk ⟨HF, HZ.out.2⟩⟩
      · refine value_ (w1 := v2_3.alloc (.cells #[.slice none 0 0, .slice none 0 0, .slice none 0 0] 26)) (v := .pointer (some ⟨v2_3.heap.size, 0, none⟩)) (by rfl) rfl ?_ ?_
        · go_simp
        have hb := (Below.refl v2_3.heap.size v2_3).alloc (Nat.le_refl _) (.cells #[.slice none 0 0, .slice none 0 0, .slice none 0 0] 26)
        have hN := blk_new v2_3 (.cells #[.slice none 0 0, .slice none 0 0, .slice none 0 0] 26)
        obtain ⟨g, hg⟩ : ∃ n, v2_3.heap.size = n := ⟨_, rfl⟩
        obtain ⟨v8_4, hw⟩ : ∃ W, v2_3.alloc (.cells #[.slice none 0 0, .slice none 0 0, .slice none 0 0] 26) = W := ⟨_, rfl⟩
        rw [hw] at hb hN ⊢
        rw [hg] at hN ⊢
        have HK8 := Aside0.mk (And.intro (show WA.heap.size ≤ g by rw [← hg]; exact hHeld.size) hN)
        refine hK.out _ _ (hHeld.trans (hb.mono hHeld.size)) (fun hHeld => ?_)
        clear hK K hb hN hg hw
        refine norm_ (a' := ?_) ?_ ?_; rotate_left; (show Act.put _ (some 16) _ = _; simp only [Act.put, List.setIfInBounds_toArray, List.set_cons_zero, List.set_cons_succ, i64_w, i32_w]; rfl)
        refine one_ (i := 4) (N := some 44) #[true, true, true, true, true, false, false, false, true, false, false] rfl rfl (one_of HT_.out (by kernel_rfl)) (by decide) (fun K hK => ?_)
        refine goes_ Try.func29 (by kernel_rfl) rfl #[.agg #[x.v0, x.v1, x.v2], .string (txt key), .agg #[y.v0, y.v1, y.v2]] (by rfl) rfl rfl (by (try simp only [List.map_toArray, List.map_cons, List.map_nil]); first | done | rfl) ?_
        refine (njoin_any x y (txt key) v8_4 (HX (l := [_, _, _, _]) (HW.out.below hHeld)).2 (HY (l := [_, _, _, _]) (HW.out.below hHeld)).2 HCU.out.1.1 HCU.out.2.1).mono ?_
        rintro e v4_5 ⟨z, er2, rfl, oz, hj, hb⟩
        refine ⟨_, rfl, ?_⟩
        have HK8' := Aside0.mk (And.intro HK8.out.1 (blk_below HK8.out.2 hb))
        have HZ := Aside0.mk (And.intro oz hj)
        refine hK.out _ _ (hHeld.trans (hb.mono hHeld.size)) (fun hHeld => ?_)
        clear hK K hb oz hj
        clear HK8
        have HK8 := HK8'
        clear HK8'
        refine norm_ (a' := ?_) ?_ ?_; rotate_left; (show Act.put _ (some 44) _ = _; simp only [Act.put, List.setIfInBounds_toArray, List.set_cons_zero, List.set_cons_succ, i64_w, i32_w]; rfl)
        refine pure_ (i := 5) (N := some 39) (v := ?_) (a' := ?_) #[true, true, true, true, true, true, false, false, true, false, false] rfl rfl (any_of HT_.out (by kernel_rfl)) (fun _ _ _ h => h) (Or.inl ⟨by rfl, ?_⟩) ?_ ?_; rotate_left; (intro w'; go_simp; with_reducible rfl); rotate_left; (simp only [Act.put, List.setIfInBounds_toArray, List.set_cons_zero, List.set_cons_succ, i64_w, i32_w]; rfl)
        refine pure_ (i := 6) (N := some 45) (v := ?_) (a' := ?_) #[true, true, true, true, true, true, true, false, true, false, false] rfl rfl (any_of HT_.out (by kernel_rfl)) (fun _ _ _ h => h) (Or.inl ⟨by rfl, ?_⟩) ?_ ?_; rotate_left; (intro w'; go_simp; with_reducible rfl); rotate_left; (simp only [Act.put, List.setIfInBounds_toArray, List.set_cons_zero, List.set_cons_succ, i64_w, i32_w]; rfl)
        refine pure_ (i := 7) (N := some 46) (v := ?_) (a' := ?_) #[true, true, true, true, true, true, true, true, true, false, false] rfl rfl (any_of HT_.out (by kernel_rfl)) (fun _ _ _ h => h) (Or.inl ⟨by rfl, ?_⟩) ?_ ?_; rotate_left; (intro w'; go_simp; with_reducible rfl); rotate_left; (simp only [Act.put, List.setIfInBounds_toArray, List.set_cons_zero, List.set_cons_succ, i64_w, i32_w]; rfl)
        refine one_ (i := 9) (N := none) #[true, true, true, true, true, true, true, true, true, true, false] rfl rfl (one_of HT_.out (by kernel_rfl)) (by decide) (fun K hK => ?_)
        have p0 : v4_5.cell? ⟨g, 0, none⟩ = some (.slice none 0 0) := blk_cell HK8.out.2 0
        have f0 : v4_5.frozen? ⟨g, 0, none⟩ = false := blk_frozen HK8.out.2 0
        have p1 : v4_5.cell? ⟨g, 1, none⟩ = some (.slice none 0 0) := blk_cell HK8.out.2 1
        have f1 : v4_5.frozen? ⟨g, 1, none⟩ = false := blk_frozen HK8.out.2 1
        have p2 : v4_5.cell? ⟨g, 2, none⟩ = some (.slice none 0 0) := blk_cell HK8.out.2 2
        have f2 : v4_5.frozen? ⟨g, 2, none⟩ = false := blk_frozen HK8.out.2 2
        refine skip_ (w1 := ?_) (by rfl) rfl ?_ ?_
        rotate_left
        · go_simp
          rfl
        clear p0 p1 p2 f0 f1 f2
        have HF := lsi_put HW.out hHeld HK8.out.1 HZ.out.1 HK8.out.2
        refine hK.out _ _ (below_set3 hHeld HK8.out.1) (fun hHeld => ?_)
        clear hK K
        refine pure_ (i := 10) (N := some 17) (v := ?_) (a' := ?_) #[true, true, true, true, true, true, true, true, true, true, true] rfl rfl (any_of HT_.out (by kernel_rfl)) (fun _ _ _ h => h) (Or.inl ⟨by rfl, ?_⟩) ?_ ?_; rotate_left; (intro w'; go_simp; with_reducible rfl); rotate_left; (simp only [Act.put, List.setIfInBounds_toArray, List.set_cons_zero, List.set_cons_succ, i64_w, i32_w]; rfl)
        refine done_ (done_of HT_.out (by kernel_rfl)) ?_
        go_wp2
        go_meet
        case rel => exact ⟨g, z, er2, rfl, rfl, Aside0.mk ⟨HF, HZ.out.2⟩⟩
    · refine value_ (w1 := wd.alloc (.cells #[.slice none 0 0, .slice none 0 0, .slice none 0 0] 26)) (v := .pointer (some ⟨wd.heap.size, 0, none⟩)) (by rfl) rfl ?_ ?_
      · go_simp
      have hb := (Below.refl wd.heap.size wd).alloc (Nat.le_refl _) (.cells #[.slice none 0 0, .slice none 0 0, .slice none 0 0] 26)
      have hN := blk_new wd (.cells #[.slice none 0 0, .slice none 0 0, .slice none 0 0] 26)
      obtain ⟨g, hg⟩ : ∃ n, wd.heap.size = n := ⟨_, rfl⟩
      obtain ⟨v8_3, hw⟩ : ∃ W, wd.alloc (.cells #[.slice none 0 0, .slice none 0 0, .slice none 0 0] 26) = W := ⟨_, rfl⟩
      rw [hw] at hb hN ⊢
      rw [hg] at hN ⊢
      have HK8 := Aside0.mk (And.intro (show WA.heap.size ≤ g by rw [← hg]; exact hHeld.size) hN)
      refine hK.out _ _ (hHeld.trans (hb.mono hHeld.size)) (fun hHeld => ?_)
      clear hK K hb hN hg hw
      refine norm_ (a' := ?_) ?_ ?_; rotate_left; (show Act.put _ (some 16) _ = _; simp only [Act.put, List.setIfInBounds_toArray, List.set_cons_zero, List.set_cons_succ, i64_w, i32_w]; rfl)
      refine one_ (i := 2) (N := some 42) #[true, true, true, true, false, false, false, false, true, false, false] rfl rfl (one_of HT_.out (by kernel_rfl)) (by decide) (fun K hK => ?_)
      refine goes_ Try.func19 (by kernel_rfl) rfl #[.string key] (by rfl) rfl rfl (by (try simp only [List.map_toArray, List.map_cons, List.map_nil]); first | done | rfl) ?_
      refine (ltext_any key v8_3).mono ?_
      rintro e v2_4 ⟨rfl, hb⟩
      refine ⟨_, rfl, ?_⟩
      have HK8' := Aside0.mk (And.intro HK8.out.1 (blk_below HK8.out.2 hb))
      refine hK.out _ _ (hHeld.trans (hb.mono hHeld.size)) (fun hHeld => ?_)
      clear hK K hb
      clear HK8
      have HK8 := HK8'
      clear HK8'
      refine norm_ (a' := ?_) ?_ ?_; rotate_left; (show Act.put _ (some 42) _ = _; simp only [Act.put, List.setIfInBounds_toArray, List.set_cons_zero, List.set_cons_succ, i64_w, i32_w]; rfl)
      refine one_ (i := 4) (N := some 44) #[true, true, true, true, true, false, false, false, true, false, false] rfl rfl (one_of HT_.out (by kernel_rfl)) (by decide) (fun K hK => ?_)
      refine goes_ Try.func29 (by kernel_rfl) rfl #[.agg #[x.v0, x.v1, x.v2], .string (txt key), .agg #[y.v0, y.v1, y.v2]] (by rfl) rfl rfl (by (try simp only [List.map_toArray, List.map_cons, List.map_nil]); first | done | rfl) ?_
      refine (njoin_any x y (txt key) v2_4 (HX (l := [_, _, _, _]) (HW.out.below hHeld)).2 (HY (l := [_, _, _, _]) (HW.out.below hHeld)).2 HCU.out.1.1 HCU.out.2.1).mono ?_
      rintro e v4_5 ⟨z, er2, rfl, oz, hj, hb⟩
      refine ⟨_, rfl, ?_⟩
      have HK8' := Aside0.mk (And.intro HK8.out.1 (blk_below HK8.out.2 hb))
      have HZ := Aside0.mk (And.intro oz hj)
      refine hK.out _ _ (hHeld.trans (hb.mono hHeld.size)) (fun hHeld => ?_)
      clear hK K hb oz hj
      clear HK8
      have HK8 := HK8'
      clear HK8'
      refine norm_ (a' := ?_) ?_ ?_; rotate_left; (show Act.put _ (some 44) _ = _; simp only [Act.put, List.setIfInBounds_toArray, List.set_cons_zero, List.set_cons_succ, i64_w, i32_w]; rfl)
      refine pure_ (i := 5) (N := some 39) (v := ?_) (a' := ?_) #[true, true, true, true, true, true, false, false, true, false, false] rfl rfl (any_of HT_.out (by kernel_rfl)) (fun _ _ _ h => h) (Or.inl ⟨by rfl, ?_⟩) ?_ ?_; rotate_left; (intro w'; go_simp; with_reducible rfl); rotate_left; (simp only [Act.put, List.setIfInBounds_toArray, List.set_cons_zero, List.set_cons_succ, i64_w, i32_w]; rfl)
      refine pure_ (i := 6) (N := some 45) (v := ?_) (a' := ?_) #[true, true, true, true, true, true, true, false, true, false, false] rfl rfl (any_of HT_.out (by kernel_rfl)) (fun _ _ _ h => h) (Or.inl ⟨by rfl, ?_⟩) ?_ ?_; rotate_left; (intro w'; go_simp; with_reducible rfl); rotate_left; (simp only [Act.put, List.setIfInBounds_toArray, List.set_cons_zero, List.set_cons_succ, i64_w, i32_w]; rfl)
      refine pure_ (i := 7) (N := some 46) (v := ?_) (a' := ?_) #[true, true, true, true, true, true, true, true, true, false, false] rfl rfl (any_of HT_.out (by kernel_rfl)) (fun _ _ _ h => h) (Or.inl ⟨by rfl, ?_⟩) ?_ ?_; rotate_left; (intro w'; go_simp; with_reducible rfl); rotate_left; (simp only [Act.put, List.setIfInBounds_toArray, List.set_cons_zero, List.set_cons_succ, i64_w, i32_w]; rfl)
      refine one_ (i := 9) (N := none) #[true, true, true, true, true, true, true, true, true, true, false] rfl rfl (one_of HT_.out (by kernel_rfl)) (by decide) (fun K hK => ?_)
      have p0 : v4_5.cell? ⟨g, 0, none⟩ = some (.slice none 0 0) := blk_cell HK8.out.2 0
      have f0 : v4_5.frozen? ⟨g, 0, none⟩ = false := blk_frozen HK8.out.2 0
      have p1 : v4_5.cell? ⟨g, 1, none⟩ = some (.slice none 0 0) := blk_cell HK8.out.2 1
      have f1 : v4_5.frozen? ⟨g, 1, none⟩ = false := blk_frozen HK8.out.2 1
      have p2 : v4_5.cell? ⟨g, 2, none⟩ = some (.slice none 0 0) := blk_cell HK8.out.2 2
      have f2 : v4_5.frozen? ⟨g, 2, none⟩ = false := blk_frozen HK8.out.2 2
      refine skip_ (w1 := ?_) (by rfl) rfl ?_ ?_
      rotate_left
      · go_simp
        rfl
      clear p0 p1 p2 f0 f1 f2
      have HF := lsi_put HW.out hHeld HK8.out.1 HZ.out.1 HK8.out.2
      refine hK.out _ _ (below_set3 hHeld HK8.out.1) (fun hHeld => ?_)
      clear hK K
      refine pure_ (i := 10) (N := some 17) (v := ?_) (a' := ?_) #[true, true, true, true, true, true, true, true, true, true, true] rfl rfl (any_of HT_.out (by kernel_rfl)) (fun _ _ _ h => h) (Or.inl ⟨by rfl, ?_⟩) ?_ ?_; rotate_left; (intro w'; go_simp; with_reducible rfl); rotate_left; (simp only [Act.put, List.setIfInBounds_toArray, List.set_cons_zero, List.set_cons_succ, i64_w, i32_w]; rfl)
      refine done_ (done_of HT_.out (by kernel_rfl)) ?_
      go_wp2
      go_meet
      case rel => exact ⟨g, z, er2, rfl, rfl, Aside0.mk ⟨HF, HZ.out.2⟩⟩
  case rest =>
    obtain ⟨g1, z1, er1, rfl, rfl, HV0⟩ := hcut
    have HV := Aside0.mk HV0.out.1
    have HJ1 := Aside0.mk HV0.out.2
    clear HV0
    go_upto_region 7 with (fail)
    go_cut [18, 19] (fun v18 v19 wd => ∃ (g : Nat) (z : Nd) (er2 : Int), v18 = .pointer (some ⟨g, 0, none⟩) ∧ v19 = .int .i64 er2 ∧ Aside0 (LsI w [(g, z), (g1, z1), (q + 1, d), (q, c), (p + 1, b), (p, a), (w.heap.size, x), (w.heap.size + 1, y)] wd ∧ JoinIs x y z (txt key) er2))
    case first =>
      refine start_ (n := 11) (S := fun W' => Below wc.heap.size wc W') (ds := []) #[false, false, false, false, false, false, false, false, false, false, false] (by kernel_rfl) rfl rfl (Below.refl wc.heap.size wc).drew (fun hHeld => ?_)
      refine with_tabW lSpl.tab7 lSpl.bits7 (fun HT_ HW_ => ?_)
      generalize wc.drew = wd at hHeld ⊢
      refine take_ (i := 0) (N := some 48) (v := ?_) (a' := ?_) #[true, false, false, false, false, false, false, false, false, false, false] rfl rfl (take_ofW HT_.out HW_.out (by kernel_rfl)) (fun _ _ _ h => h) (Or.inl ⟨by rfl, ?_⟩) hHeld ?_ ?_; rotate_left; (intro w' hS; have q0 : w'.cell? ⟨w.heap.size, 0, none⟩ = some x.v0 := blk_cell (HX (l := [_, _, _, _, _]) (HV.out.below hS)).1 0; have q1 : w'.cell? ⟨w.heap.size, 1, none⟩ = some x.v1 := blk_cell (HX (l := [_, _, _, _, _]) (HV.out.below hS)).1 1; have q2 : w'.cell? ⟨w.heap.size, 2, none⟩ = some x.v2 := blk_cell (HX (l := [_, _, _, _, _]) (HV.out.below hS)).1 2; go_simp; with_reducible rfl); rotate_left; (simp only [Act.put, List.setIfInBounds_toArray, List.set_cons_zero, List.set_cons_succ, i64_w, i32_w]; rfl)
      refine pure_ (i := 1) (N := some 49) (v := ?_) (a' := ?_) #[true, true, false, false, false, false, false, false, false, false, false] rfl rfl (any_of HT_.out (by kernel_rfl)) (fun _ _ _ h => h) (Or.inl ⟨by rfl, ?_⟩) ?_ ?_; rotate_left; (intro w'; go_simp; with_reducible rfl); rotate_left; (simp only [Act.put, List.setIfInBounds_toArray, List.set_cons_zero, List.set_cons_succ, i64_w, i32_w]; rfl)
      refine take_ (i := 3) (N := some 51) (v := ?_) (a' := ?_) #[true, true, false, true, false, false, false, false, false, false, false] rfl rfl (take_ofW HT_.out HW_.out (by kernel_rfl)) (fun _ _ _ h => h) (Or.inl ⟨by rfl, ?_⟩) hHeld ?_ ?_; rotate_left; (intro w' hS; have q0 : w'.cell? ⟨w.heap.size + 1, 0, none⟩ = some y.v0 := blk_cell (HY (l := [_, _, _, _, _]) (HV.out.below hS)).1 0; have q1 : w'.cell? ⟨w.heap.size + 1, 1, none⟩ = some y.v1 := blk_cell (HY (l := [_, _, _, _, _]) (HV.out.below hS)).1 1; have q2 : w'.cell? ⟨w.heap.size + 1, 2, none⟩ = some y.v2 := blk_cell (HY (l := [_, _, _, _, _]) (HV.out.below hS)).1 2; go_simp; with_reducible rfl); rotate_left; (simp only [Act.put, List.setIfInBounds_toArray, List.set_cons_zero, List.set_cons_succ, i64_w, i32_w]; rfl)
      refine two_ (i := 2) (j := 8) (Ni := some 50) (Nj := some 18) #[true, true, true, true, false, false, false, false, false, false, false] #[true, true, false, true, false, false, false, false, true, false, false] rfl rfl rfl rfl (two_of HT_.out (by kernel_rfl)) (by decide) (by decide) (fun K hK => ?_) (fun K hK => ?_)
      · refine goes_ Try.func19 (by kernel_rfl) rfl #[.string key] (by rfl) rfl rfl (by (try simp only [List.map_toArray, List.map_cons, List.map_nil]); first | done | rfl) ?_
        refine (ltext_any key wd).mono ?_
        rintro e v2_3 ⟨rfl, hb⟩
        refine ⟨_, rfl, ?_⟩
        refine hK.out _ _ (hHeld.trans (hb.mono hHeld.size)) (fun hHeld => ?_)
        clear hK K hb
        refine norm_ (a' := ?_) ?_ ?_; rotate_left; (show Act.put _ (some 50) _ = _; simp only [Act.put, List.setIfInBounds_toArray, List.set_cons_zero, List.set_cons_succ, i64_w, i32_w]; rfl)
        refine two_ (i := 4) (j := 8) (Ni := some 52) (Nj := some 18) #[true, true, true, true, true, false, false, false, false, false, false] #[true, true, true, true, false, false, false, false, true, false, false] rfl rfl rfl rfl (two_of HT_.out (by kernel_rfl)) (by decide) (by decide) (fun K hK => ?_) (fun K hK => ?_)
        · refine goes_ Try.func30 (by kernel_rfl) rfl #[.agg #[x.v0, x.v1, x.v2], .string (txt key), .agg #[y.v0, y.v1, y.v2]] (by rfl) rfl rfl (by (try simp only [List.map_toArray, List.map_cons, List.map_nil]); first | done | rfl) ?_
          refine (rjoin_any x y (txt key) v2_3 (HX (l := [_, _, _, _, _]) (HV.out.below hHeld)).2 (HY (l := [_, _, _, _, _]) (HV.out.below hHeld)).2 HCU.out.1 HCU.out.2 (txt_size key)).mono ?_
          rintro e v4_4 ⟨z, er2, rfl, oz, hj, hb⟩
          refine ⟨_, rfl, ?_⟩
          have HZ := Aside0.mk (And.intro oz hj)
          refine hK.out _ _ (hHeld.trans (hb.mono hHeld.size)) (fun hHeld => ?_)
          clear hK K hb oz hj
          refine norm_ (a' := ?_) ?_ ?_; rotate_left; (show Act.put _ (some 52) _ = _; simp only [Act.put, List.setIfInBounds_toArray, List.set_cons_zero, List.set_cons_succ, i64_w, i32_w]; rfl)
          refine pure_ (i := 5) (N := some 47) (v := ?_) (a' := ?_) #[true, true, true, true, true, true, false, false, false, false, false] rfl rfl (any_of HT_.out (by kernel_rfl)) (fun _ _ _ h => h) (Or.inl ⟨by rfl, ?_⟩) ?_ ?_; rotate_left; (intro w'; go_simp; with_reducible rfl); rotate_left; (simp only [Act.put, List.setIfInBounds_toArray, List.set_cons_zero, List.set_cons_succ, i64_w, i32_w]; rfl)
          refine pure_ (i := 6) (N := some 53) (v := ?_) (a' := ?_) #[true, true, true, true, true, true, true, false, false, false, false] rfl rfl (any_of HT_.out (by kernel_rfl)) (fun _ _ _ h => h) (Or.inl ⟨by rfl, ?_⟩) ?_ ?_; rotate_left; (intro w'; go_simp; with_reducible rfl); rotate_left; (simp only [Act.put, List.setIfInBounds_toArray, List.set_cons_zero, List.set_cons_succ, i64_w, i32_w]; rfl)
          refine pure_ (i := 7) (N := some 54) (v := ?_) (a' := ?_) #[true, true, true, true, true, true, true, true, false, false, false] rfl rfl (any_of HT_.out (by kernel_rfl)) (fun _ _ _ h => h) (Or.inl ⟨by rfl, ?_⟩) ?_ ?_; rotate_left; (intro w'; go_simp; with_reducible rfl); rotate_left; (simp only [Act.put, List.setIfInBounds_toArray, List.set_cons_zero, List.set_cons_succ, i64_w, i32_w]; rfl)
          refine one_ (i := 8) (N := some 18) #[true, true, true, true, true, true, true, true, true, false, false] rfl rfl (one_of HT_.out (by kernel_rfl)) (by decide) (fun K hK => ?_)
          refine value_ (w1 := v4_4.alloc (.cells #[.slice none 0 0, .slice none 0 0, .slice none 0 0] 26)) (v := .pointer (some ⟨v4_4.heap.size, 0, none⟩)) (by rfl) rfl ?_ ?_
          · go_simp
          have hb := (Below.refl v4_4.heap.size v4_4).alloc (Nat.le_refl _) (.cells #[.slice none 0 0, .slice none 0 0, .slice none 0 0] 26)
          have hN := blk_new v4_4 (.cells #[.slice none 0 0, .slice none 0 0, .slice none 0 0] 26)
          obtain ⟨g, hg⟩ : ∃ n, v4_4.heap.size = n := ⟨_, rfl⟩
          obtain ⟨v8_z, hw⟩ : ∃ W, v4_4.alloc (.cells #[.slice none 0 0, .slice none 0 0, .slice none 0 0] 26) = W := ⟨_, rfl⟩
          rw [hw] at hb hN ⊢
          rw [hg] at hN ⊢
          have HZ' := Aside0.mk (And.intro (HZ.out.1.below hb) HZ.out.2)
          have HK8 := Aside0.mk (And.intro (show wc.heap.size ≤ g by rw [← hg]; exact hHeld.size) hN)
          refine hK.out _ _ (hHeld.trans (hb.mono hHeld.size)) (fun hHeld => ?_)
          clear hK K hb hN hg hw
          clear HZ
          have HZ := HZ'
          clear HZ'
          refine norm_ (a' := ?_) ?_ ?_; rotate_left; (show Act.put _ (some 18) _ = _; simp only [Act.put, List.setIfInBounds_toArray, List.set_cons_zero, List.set_cons_succ, i64_w, i32_w]; rfl)
          refine one_ (i := 9) (N := none) #[true, true, true, true, true, true, true, true, true, true, false] rfl rfl (one_of HT_.out (by kernel_rfl)) (by decide) (fun K hK => ?_)
          have p0 : v8_z.cell? ⟨g, 0, none⟩ = some (.slice none 0 0) := blk_cell HK8.out.2 0
          have f0 : v8_z.frozen? ⟨g, 0, none⟩ = false := blk_frozen HK8.out.2 0
          have p1 : v8_z.cell? ⟨g, 1, none⟩ = some (.slice none 0 0) := blk_cell HK8.out.2 1
          have f1 : v8_z.frozen? ⟨g, 1, none⟩ = false := blk_frozen HK8.out.2 1
          have p2 : v8_z.cell? ⟨g, 2, none⟩ = some (.slice none 0 0) := blk_cell HK8.out.2 2
          have f2 : v8_z.frozen? ⟨g, 2, none⟩ = false := blk_frozen HK8.out.2 2
          refine skip_ (w1 := ?_) (by rfl) rfl ?_ ?_
          rotate_left
          · go_simp
            rfl
          clear p0 p1 p2 f0 f1 f2
          have HF := lsi_put HV.out hHeld HK8.out.1 HZ.out.1 HK8.out.2
          refine hK.out _ _ (below_set3 hHeld HK8.out.1) (fun hHeld => ?_)
          clear hK K
          refine pure_ (i := 10) (N := some 19) (v := ?_) (a' := ?_) #[true, true, true, true, true, true, true, true, true, true, true] rfl rfl (any_of HT_.out (by kernel_rfl)) (fun _ _ _ h => h) (Or.inl ⟨by rfl, ?_⟩) ?_ ?_; rotate_left; (intro w'; go_simp; with_reducible rfl); rotate_left; (simp only [Act.put, List.setIfInBounds_toArray, List.set_cons_zero, List.set_cons_succ, i64_w, i32_w]; rfl)
          refine done_ (done_of HT_.out (by kernel_rfl)) ?_
          go_wp2
          go_meet
          case rel => exact ⟨g, z, er2, rfl, rfl, Aside0.mk ⟨HF, HZ.out.2⟩⟩
        · refine value_ (w1 := v2_3.alloc (.cells #[.slice none 0 0, .slice none 0 0, .slice none 0 0] 26)) (v := .pointer (some ⟨v2_3.heap.size, 0, none⟩)) (by rfl) rfl ?_ ?_
          · go_simp
          have hb := (Below.refl v2_3.heap.size v2_3).alloc (Nat.le_refl _) (.cells #[.slice none 0 0, .slice none 0 0, .slice none 0 0] 26)
          have hN := blk_new v2_3 (.cells #[.slice none 0 0, .slice none 0 0, .slice none 0 0] 26)
          obtain ⟨g, hg⟩ : ∃ n, v2_3.heap.size = n := ⟨_, rfl⟩
          obtain ⟨v8_4, hw⟩ : ∃ W, v2_3.alloc (.cells #[.slice none 0 0, .slice none 0 0, .slice none 0 0] 26) = W := ⟨_, rfl⟩
          rw [hw] at hb hN ⊢
          rw [hg] at hN ⊢
          have HK8 := Aside0.mk (And.intro (show wc.heap.size ≤ g by rw [← hg]; exact hHeld.size) hN)
          refine hK.out _ _ (hHeld.trans (hb.mono hHeld.size)) (fun hHeld => ?_)
          clear hK K hb hN hg hw
          refine norm_ (a' := ?_) ?_ ?_; rotate_left; (show Act.put _ (some 18) _ = _; simp only [Act.put, List.setIfInBounds_toArray, List.set_cons_zero, List.set_cons_succ, i64_w, i32_w]; rfl)
          refine one_ (i := 4) (N := some 52) #[true, true, true, true, true, false, false, false, true, false, false] rfl rfl (one_of HT_.out (by kernel_rfl)) (by decide) (fun K hK => ?_)
          refine goes_ Try.func30 (by kernel_rfl) rfl #[.agg #[x.v0, x.v1, x.v2], .string (txt key), .agg #[y.v0, y.v1, y.v2]] (by rfl) rfl rfl (by (try simp only [List.map_toArray, List.map_cons, List.map_nil]); first | done | rfl) ?_
          refine (rjoin_any x y (txt key) v8_4 (HX (l := [_, _, _, _, _]) (HV.out.below hHeld)).2 (HY (l := [_, _, _, _, _]) (HV.out.below hHeld)).2 HCU.out.1 HCU.out.2 (txt_size key)).mono ?_
          rintro e v4_5 ⟨z, er2, rfl, oz, hj, hb⟩
          refine ⟨_, rfl, ?_⟩
          have HK8' := Aside0.mk (And.intro HK8.out.1 (blk_below HK8.out.2 hb))
          have HZ := Aside0.mk (And.intro oz hj)
          refine hK.out _ _ (hHeld.trans (hb.mono hHeld.size)) (fun hHeld => ?_)
          clear hK K hb oz hj
          clear HK8
          have HK8 := HK8'
          clear HK8'
          refine norm_ (a' := ?_) ?_ ?_; rotate_left; (show Act.put _ (some 52) _ = _; simp only [Act.put, List.setIfInBounds_toArray, List.set_cons_zero, List.set_cons_succ, i64_w, i32_w]; rfl)
          refine pure_ (i := 5) (N := some 47) (v := ?_) (a' := ?_) #[true, true, true, true, true, true, false, false, true, false, false] rfl rfl (any_of HT_.out (by kernel_rfl)) (fun _ _ _ h => h) (Or.inl ⟨by rfl, ?_⟩) ?_ ?_; rotate_left; (intro w'; go_simp; with_reducible rfl); rotate_left; (simp only [Act.put, List.setIfInBounds_toArray, List.set_cons_zero, List.set_cons_succ, i64_w, i32_w]; rfl)
          refine pure_ (i := 6) (N := some 53) (v := ?_) (a' := ?_) #[true, true, true, true, true, true, true, false, true, false, false] rfl rfl (any_of HT_.out (by kernel_rfl)) (fun _ _ _ h => h) (Or.inl ⟨by rfl, ?_⟩) ?_ ?_; rotate_left; (intro w'; go_simp; with_reducible rfl); rotate_left; (simp only [Act.put, List.setIfInBounds_toArray, List.set_cons_zero, List.set_cons_succ, i64_w, i32_w]; rfl)
          refine pure_ (i := 7) (N := some 54) (v := ?_) (a' := ?_) #[true, true, true, true, true, true, true, true, true, false, false] rfl rfl (any_of HT_.out (by kernel_rfl)) (fun _ _ _ h => h) (Or.inl ⟨by rfl, ?_⟩) ?_ ?_; rotate_left; (intro w'; go_simp; with_reducible rfl); rotate_left; (simp only [Act.put, List.setIfInBounds_toArray, List.set_cons_zero, List.set_cons_succ, i64_w, i32_w]; rfl)
          refine one_ (i := 9) (N := none) #[true, true, true, true, true, true, true, true, true, true, false] rfl rfl (one_of HT_.out (by kernel_rfl)) (by decide) (fun K hK => ?_)
          have p0 : v4_5.cell? ⟨g, 0, none⟩ = some (.slice none 0 0) := blk_cell HK8.out.2 0
          have f0 : v4_5.frozen? ⟨g, 0, none⟩ = false := blk_frozen HK8.out.2 0
          have p1 : v4_5.cell? ⟨g, 1, none⟩ = some (.slice none 0 0) := blk_cell HK8.out.2 1
          have f1 : v4_5.frozen? ⟨g, 1, none⟩ = false := blk_frozen HK8.out.2 1
          have p2 : v4_5.cell? ⟨g, 2, none⟩ = some (.slice none 0 0) := blk_cell HK8.out.2 2
          have f2 : v4_5.frozen? ⟨g, 2, none⟩ = false := blk_frozen HK8.out.2 2
          refine skip_ (w1 := ?_) (by rfl) rfl ?_ ?_
          rotate_left
          · go_simp
            rfl
          clear p0 p1 p2 f0 f1 f2
          have HF := lsi_put HV.out hHeld HK8.out.1 HZ.out.1 HK8.out.2
          refine hK.out _ _ (below_set3 hHeld HK8.out.1) (fun hHeld => ?_)
          clear hK K
          refine pure_ (i := 10) (N := some 19) (v := ?_) (a' := ?_) #[true, true, true, true, true, true, true, true, true, true, true] rfl rfl (any_of HT_.out (by kernel_rfl)) (fun _ _ _ h => h) (Or.inl ⟨by rfl, ?_⟩) ?_ ?_; rotate_left; (intro w'; go_simp; with_reducible rfl); rotate_left; (simp only [Act.put, List.setIfInBounds_toArray, List.set_cons_zero, List.set_cons_succ, i64_w, i32_w]; rfl)
          refine done_ (done_of HT_.out (by kernel_rfl)) ?_
          go_wp2
          go_meet
          case rel => exact ⟨g, z, er2, rfl, rfl, Aside0.mk ⟨HF, HZ.out.2⟩⟩
      · refine value_ (w1 := wd.alloc (.cells #[.slice none 0 0, .slice none 0 0, .slice none 0 0] 26)) (v := .pointer (some ⟨wd.heap.size, 0, none⟩)) (by rfl) rfl ?_ ?_
        · go_simp
        have hb := (Below.refl wd.heap.size wd).alloc (Nat.le_refl _) (.cells #[.slice none 0 0, .slice none 0 0, .slice none 0 0] 26)
        have hN := blk_new wd (.cells #[.slice none 0 0, .slice none 0 0, .slice none 0 0] 26)
        obtain ⟨g, hg⟩ : ∃ n, wd.heap.size = n := ⟨_, rfl⟩
        obtain ⟨v8_3, hw⟩ : ∃ W, wd.alloc (.cells #[.slice none 0 0, .slice none 0 0, .slice none 0 0] 26) = W := ⟨_, rfl⟩
        rw [hw] at hb hN ⊢
        rw [hg] at hN ⊢
        have HK8 := Aside0.mk (And.intro (show wc.heap.size ≤ g by rw [← hg]; exact hHeld.size) hN)
        refine hK.out _ _ (hHeld.trans (hb.mono hHeld.size)) (fun hHeld => ?_)
        clear hK K hb hN hg hw
        refine norm_ (a' := ?_) ?_ ?_; rotate_left; (show Act.put _ (some 18) _ = _; simp only [Act.put, List.setIfInBounds_toArray, List.set_cons_zero, List.set_cons_succ, i64_w, i32_w]; rfl)
        refine one_ (i := 2) (N := some 50) #[true, true, true, true, false, false, false, false, true, false, false] rfl rfl (one_of HT_.out (by kernel_rfl)) (by decide) (fun K hK => ?_)
        refine goes_ Try.func19 (by kernel_rfl) rfl #[.string key] (by rfl) rfl rfl (by (try simp only [List.map_toArray, List.map_cons, List.map_nil]); first | done | rfl) ?_
        refine (ltext_any key v8_3).mono ?_
        rintro e v2_4 ⟨rfl, hb⟩
        refine ⟨_, rfl, ?_⟩
        have HK8' := Aside0.mk (And.intro HK8.out.1 (blk_below HK8.out.2 hb))
        refine hK.out _ _ (hHeld.trans (hb.mono hHeld.size)) (fun hHeld => ?_)
        clear hK K hb
        clear HK8
        have HK8 := HK8'
        clear HK8'
        refine norm_ (a' := ?_) ?_ ?_; rotate_left; (show Act.put _ (some 50) _ = _; simp only [Act.put, List.setIfInBounds_toArray, List.set_cons_zero, List.set_cons_succ, i64_w, i32_w]; rfl)
        refine one_ (i := 4) (N := some 52) #[true, true, true, true, true, false, false, false, true, false, false] rfl rfl (one_of HT_.out (by kernel_rfl)) (by decide) (fun K hK => ?_)
        refine goes_ Try.func30 (by kernel_rfl) rfl #[.agg #[x.v0, x.v1, x.v2], .string (txt key), .agg #[y.v0, y.v1, y.v2]] (by rfl) rfl rfl (by (try simp only [List.map_toArray, List.map_cons, List.map_nil]); first | done | rfl) ?_
        refine (rjoin_any x y (txt key) v2_4 (HX (l := [_, _, _, _, _]) (HV.out.below hHeld)).2 (HY (l := [_, _, _, _, _]) (HV.out.below hHeld)).2 HCU.out.1 HCU.out.2 (txt_size key)).mono ?_
        rintro e v4_5 ⟨z, er2, rfl, oz, hj, hb⟩
        refine ⟨_, rfl, ?_⟩
        have HK8' := Aside0.mk (And.intro HK8.out.1 (blk_below HK8.out.2 hb))
        have HZ := Aside0.mk (And.intro oz hj)
        refine hK.out _ _ (hHeld.trans (hb.mono hHeld.size)) (fun hHeld => ?_)
        clear hK K hb oz hj
        clear HK8
        have HK8 := HK8'
        clear HK8'
        refine norm_ (a' := ?_) ?_ ?_; rotate_left; (show Act.put _ (some 52) _ = _; simp only [Act.put, List.setIfInBounds_toArray, List.set_cons_zero, List.set_cons_succ, i64_w, i32_w]; rfl)
        refine pure_ (i := 5) (N := some 47) (v := ?_) (a' := ?_) #[true, true, true, true, true, true, false, false, true, false, false] rfl rfl (any_of HT_.out (by kernel_rfl)) (fun _ _ _ h => h) (Or.inl ⟨by rfl, ?_⟩) ?_ ?_; rotate_left; (intro w'; go_simp; with_reducible rfl); rotate_left; (simp only [Act.put, List.setIfInBounds_toArray, List.set_cons_zero, List.set_cons_succ, i64_w, i32_w]; rfl)
        refine pure_ (i := 6) (N := some 53) (v := ?_) (a' := ?_) #[true, true, true, true, true, true, true, false, true, false, false] rfl rfl (any_of HT_.out (by kernel_rfl)) (fun _ _ _ h => h) (Or.inl ⟨by rfl, ?_⟩) ?_ ?_; rotate_left; (intro w'; go_simp; with_reducible rfl); rotate_left; (simp only [Act.put, List.setIfInBounds_toArray, List.set_cons_zero, List.set_cons_succ, i64_w, i32_w]; rfl)
        refine pure_ (i := 7) (N := some 54) (v := ?_) (a' := ?_) #[true, true, true, true, true, true, true, true, true, false, false] rfl rfl (any_of HT_.out (by kernel_rfl)) (fun _ _ _ h => h) (Or.inl ⟨by rfl, ?_⟩) ?_ ?_; rotate_left; (intro w'; go_simp; with_reducible rfl); rotate_left; (simp only [Act.put, List.setIfInBounds_toArray, List.set_cons_zero, List.set_cons_succ, i64_w, i32_w]; rfl)
        refine one_ (i := 9) (N := none) #[true, true, true, true, true, true, true, true, true, true, false] rfl rfl (one_of HT_.out (by kernel_rfl)) (by decide) (fun K hK => ?_)
        have p0 : v4_5.cell? ⟨g, 0, none⟩ = some (.slice none 0 0) := blk_cell HK8.out.2 0
        have f0 : v4_5.frozen? ⟨g, 0, none⟩ = false := blk_frozen HK8.out.2 0
        have p1 : v4_5.cell? ⟨g, 1, none⟩ = some (.slice none 0 0) := blk_cell HK8.out.2 1
        have f1 : v4_5.frozen? ⟨g, 1, none⟩ = false := blk_frozen HK8.out.2 1
        have p2 : v4_5.cell? ⟨g, 2, none⟩ = some (.slice none 0 0) := blk_cell HK8.out.2 2
        have f2 : v4_5.frozen? ⟨g, 2, none⟩ = false := blk_frozen HK8.out.2 2
        refine skip_ (w1 := ?_) (by rfl) rfl ?_ ?_
        rotate_left
        · go_simp
          rfl
        clear p0 p1 p2 f0 f1 f2
        have HF := lsi_put HV.out hHeld HK8.out.1 HZ.out.1 HK8.out.2
        refine hK.out _ _ (below_set3 hHeld HK8.out.1) (fun hHeld => ?_)
        clear hK K
        refine pure_ (i := 10) (N := some 19) (v := ?_) (a' := ?_) #[true, true, true, true, true, true, true, true, true, true, true] rfl rfl (any_of HT_.out (by kernel_rfl)) (fun _ _ _ h => h) (Or.inl ⟨by rfl, ?_⟩) ?_ ?_; rotate_left; (intro w'; go_simp; with_reducible rfl); rotate_left; (simp only [Act.put, List.setIfInBounds_toArray, List.set_cons_zero, List.set_cons_succ, i64_w, i32_w]; rfl)
        refine done_ (done_of HT_.out (by kernel_rfl)) ?_
        go_wp2
        go_meet
        case rel => exact ⟨g, z, er2, rfl, rfl, Aside0.mk ⟨HF, HZ.out.2⟩⟩
    case rest =>
      obtain ⟨g2, z2, er2, rfl, rfl, HU0⟩ := hcut
      obtain ⟨hzz, rfl⟩ := join_same HJ1.out HU0.out.2
      have sz := join_small HJ1.out
      have HU := Aside0.mk HU0.out.1
      have HSZ := Aside0.mk (And.intro hzz sz)
      clear HU0 HV hzz sz HJ1
      have q0 : wc.cell? ⟨p, 0, none⟩ = some a.v0 := blk_cell (HU.out.bs (p, a) (by simp)).1 0
      have q1 : wc.cell? ⟨p, 1, none⟩ = some a.v1 := blk_cell (HU.out.bs (p, a) (by simp)).1 1
      have q2 : wc.cell? ⟨p, 2, none⟩ = some a.v2 := blk_cell (HU.out.bs (p, a) (by simp)).1 2
      have r0 : wc.cell? ⟨q, 0, none⟩ = some c.v0 := blk_cell (HU.out.bs (q, c) (by simp)).1 0
      have r1 : wc.cell? ⟨q, 1, none⟩ = some c.v1 := blk_cell (HU.out.bs (q, c) (by simp)).1 1
      have r2 : wc.cell? ⟨q, 2, none⟩ = some c.v2 := blk_cell (HU.out.bs (q, c) (by simp)).1 2
      go_wp2_with fail
      refine (same_any a c wc (HU.out.bs (p, a) (by simp)).2 (HU.out.bs (q, c) (by simp)).2 HSA.out.1.1 HSA.out.1.2).mono ?_
      rintro e y0 ⟨rfl, hb⟩
      have HU' := Aside0.mk (HU.out.below hb)
      clear HU hb q0 q1 q2 r0 r1 r2
      have HU := HU'
      clear HU'
      have q0 : y0.cell? ⟨p + 1, 0, none⟩ = some b.v0 := blk_cell (HU.out.bs (p + 1, b) (by simp)).1 0
      have q1 : y0.cell? ⟨p + 1, 1, none⟩ = some b.v1 := blk_cell (HU.out.bs (p + 1, b) (by simp)).1 1
      have q2 : y0.cell? ⟨p + 1, 2, none⟩ = some b.v2 := blk_cell (HU.out.bs (p + 1, b) (by simp)).1 2
      have r0 : y0.cell? ⟨q + 1, 0, none⟩ = some d.v0 := blk_cell (HU.out.bs (q + 1, d) (by simp)).1 0
      have r1 : y0.cell? ⟨q + 1, 1, none⟩ = some d.v1 := blk_cell (HU.out.bs (q + 1, d) (by simp)).1 1
      have r2 : y0.cell? ⟨q + 1, 2, none⟩ = some d.v2 := blk_cell (HU.out.bs (q + 1, d) (by simp)).1 2
      go_wp2_with fail
      refine (same_any b d y0 (HU.out.bs (p + 1, b) (by simp)).2 (HU.out.bs (q + 1, d) (by simp)).2 HSA.out.2.1 HSA.out.2.2).mono ?_
      rintro e y1 ⟨rfl, hb⟩
      have HU' := Aside0.mk (HU.out.below hb)
      clear HU hb q0 q1 q2 r0 r1 r2
      have HU := HU'
      clear HU'
      have q0 : y1.cell? ⟨g1, 0, none⟩ = some z1.v0 := blk_cell (HU.out.bs (g1, z1) (by simp)).1 0
      have q1 : y1.cell? ⟨g1, 1, none⟩ = some z1.v1 := blk_cell (HU.out.bs (g1, z1) (by simp)).1 1
      have q2 : y1.cell? ⟨g1, 2, none⟩ = some z1.v2 := blk_cell (HU.out.bs (g1, z1) (by simp)).1 2
      have r0 : y1.cell? ⟨g2, 0, none⟩ = some z2.v0 := blk_cell (HU.out.bs (g2, z2) (by simp)).1 0
      have r1 : y1.cell? ⟨g2, 1, none⟩ = some z2.v1 := blk_cell (HU.out.bs (g2, z2) (by simp)).1 1
      have r2 : y1.cell? ⟨g2, 2, none⟩ = some z2.v2 := blk_cell (HU.out.bs (g2, z2) (by simp)).1 2
      go_wp2_with fail
      refine (same_any z1 z2 y1 (HU.out.bs (g1, z1) (by simp)).2 (HU.out.bs (g2, z2) (by simp)).2 HSZ.out.1 HSZ.out.2).mono ?_
      rintro e y2 ⟨rfl, hb⟩
      have HU' := Aside0.mk (HU.out.below hb)
      clear HU hb q0 q1 q2 r0 r1 r2
      have HU := HU'
      clear HU'
      go_wp2
      go_ret
      exact ⟨rfl, HU.out.bel⟩
end Go.Proofs.Ytejempihaknplaa.G
