/- package bazaarref06: cutAt by hand. -/
import Derived.Test.YtejempihaknplaaHSplit
import Derived.Deep.AppendLies
namespace Go.Proofs.Ytejempihaknplaa.G
open Go.RowKit Go.Proofs.YtejempihaknplaaW.PrintWords Go.Proofs.YtejempihaknplaaW.PrintLast Go.Proofs.YtejempihaknplaaW.PrintMore
set_option linter.unusedVariables false
set_option linter.unusedSimpArgs false

/-- append onto nil, as a step of a region. -/
theorem step_new {α : Type} {P : Program} {ops : Array Oper} {o : Oper} {a : Act} {W : World} {Kc : Act → World → Prop} {Q : Exit → Act → World → Prop} (d : Kd α) (hw : Region.wanted o (yielded ops a.tmps) = true) (s x : Operand) (t e : TypeId) (z : Value) (bytes : Nat)
    (ho : o.op = .call { callee := .builtin .append, args := #[s, x], argTypes := #[t, t] })
    (ht : P.underlying t = some (.slice e)) (hinfo : (P.info? e).map (fun i => (i.zero, i.size, i.bytes)) = some (some z, d.sz, bytes)) (hz : z.cells.size = d.sz) (hs0 : 0 < d.sz) (hb0 : 0 < bytes)
    (ys : List α) (A : Option Addr) (m c : Nat) (hs : a.eval s = .slice none 0 0) (hx : a.eval x = .slice A m c) (HR : Kd.C d W A ys.length ys) (hm : ys.length = m) (hKM : ∀ x cs, d.K W x cs → d.M W W.heap.size (fun _ => False) x cs) (hl : m * bytes ≤ 140737488355328)
    (h : ∀ A' c' w1, d.R e w1 W.heap.size (fun _ => True) (.slice A' m c') ys → Below W.heap.size W w1 → Kc (a.put o.dst (.slice A' m c')) w1) :
    if Region.wanted o (yielded ops a.tmps) = true then Oper.wp P o a W Kc Q else Kc (a.put o.dst undef) W := by
  subst hm
  refine Kd.R_append_rows_step d (w0 := W) W.heap.size hw s x t e z bytes ho ht hinfo hz hs0 hb0 (.slice none 0 0) [] ys A ys.length c (fun _ => True) (fun _ => False) hs hx (Kd.R_nil _ _ _ _ _) HR hKM (fun _ h => h.elim) (fun _ _ => trivial) (Below.refl _ _) (Nat.le_refl _) (by simpa using hl) ?_
  intro v1 w1 hR hB _ _
  rw [List.nil_append] at hR
  obtain ⟨A', c', rfl, _⟩ := Kd.R_reads hR
  exact h A' c' w1 hR hB

/-- What stands while a node is cut: the argument's box, the results' blocks, the two halves so far. -/
structure CaI (w : World) (x a b : Nd) (W : World) : Prop where
  b0 : W.heap[w.heap.size]? = some (.cells #[x.v0, x.v1, x.v2] 26 (0, 0))
  b1 : W.heap[w.heap.size + 1]? = some (.cells #[.slice none 0 0, .slice none 0 0, .slice none 0 0] 26 (0, 0))
  b2 : W.heap[w.heap.size + 1 + 1]? = some (.cells #[.slice none 0 0, .slice none 0 0, .slice none 0 0] 26 (0, 0))
  b3 : W.heap[w.heap.size + 1 + 1 + 1]? = some (.cells #[a.v0, a.v1, a.v2] 26 (0, 0))
  b4 : W.heap[w.heap.size + 1 + 1 + 1 + 1]? = some (.cells #[b.v0, b.v1, b.v2] 26 (0, 0))
  oa : a.Own W w.heap.size
  ob : b.Own W w.heap.size
  bel : Below w.heap.size w W
theorem CaI.below {w W W' : World} {x a b : Nd} (h : CaI w x a b W) (hb : Below W.heap.size W W') : CaI w x a b W' :=
  ⟨blk_below h.b0 hb, blk_below h.b1 hb, blk_below h.b2 hb, blk_below h.b3 hb, blk_below h.b4 hb, h.oa.below hb, h.ob.below hb, h.bel.trans (hb.mono h.bel.size)⟩
theorem CaI.drew {w W : World} {x a b : Nd} (h : CaI w x a b W) : CaI w x a b W.drew := h.below (Below.refl W.heap.size W).drew
theorem own_set {x : Nd} {w : World} {base g j : Nat} {cs : Array Value} {u : Value} (h : x.Own w base) (hb : w.heap[g]? = some (.cells cs 26 (0, 0))) : x.Own (w.setCell ⟨g, j, none⟩ u) base :=
  ⟨Kd.R_set h.p hb (by decide) j u, Kd.R_set h.k hb (by decide) j u, Kd.R_set h.d hb (by decide) j u⟩
theorem CaI.seta0 {w W : World} {x a b : Nd} {A : Option Addr} {c : Nat} {l : List _} (h : CaI w x a b W) (hR : Kd.R k39 39 W w.heap.size (fun _ => True) (.slice A l.length c) l) :
    CaI w x ({ a with A0 := A, c0 := c, ps := l }) (b) (W.setCell ⟨w.heap.size + 1 + 1 + 1, 0, none⟩ (.slice A l.length c)) :=
  ⟨blk_far h.b0 (by dsimp only; omega) _, blk_far h.b1 (by dsimp only; omega) _, blk_far h.b2 (by dsimp only; omega) _, blk_put h.b3 0 _ rfl, blk_far h.b4 (by dsimp only; omega) _, ⟨Kd.R_set hR h.b3 (by decide) 0 _, Kd.R_set h.oa.k h.b3 (by decide) 0 _, Kd.R_set h.oa.d h.b3 (by decide) 0 _⟩, own_set h.ob h.b3, h.bel.setCell (by dsimp only; omega) _⟩
theorem CaI.seta1 {w W : World} {x a b : Nd} {A : Option Addr} {c : Nat} {l : List _} (h : CaI w x a b W) (hR : Kd.R Kd.string 9 W w.heap.size (fun _ => True) (.slice A l.length c) l) :
    CaI w x ({ a with A1 := A, c1 := c, ks := l }) (b) (W.setCell ⟨w.heap.size + 1 + 1 + 1, 1, none⟩ (.slice A l.length c)) :=
  ⟨blk_far h.b0 (by dsimp only; omega) _, blk_far h.b1 (by dsimp only; omega) _, blk_far h.b2 (by dsimp only; omega) _, blk_put h.b3 1 _ rfl, blk_far h.b4 (by dsimp only; omega) _, ⟨Kd.R_set h.oa.p h.b3 (by decide) 1 _, Kd.R_set hR h.b3 (by decide) 1 _, Kd.R_set h.oa.d h.b3 (by decide) 1 _⟩, own_set h.ob h.b3, h.bel.setCell (by dsimp only; omega) _⟩
theorem CaI.seta2 {w W : World} {x a b : Nd} {A : Option Addr} {c : Nat} {l : List _} (h : CaI w x a b W) (hR : Kd.R (Kd.int .u32) 65 W w.heap.size (fun _ => True) (.slice A l.length c) l) :
    CaI w x ({ a with A2 := A, c2 := c, kd := l }) (b) (W.setCell ⟨w.heap.size + 1 + 1 + 1, 2, none⟩ (.slice A l.length c)) :=
  ⟨blk_far h.b0 (by dsimp only; omega) _, blk_far h.b1 (by dsimp only; omega) _, blk_far h.b2 (by dsimp only; omega) _, blk_put h.b3 2 _ rfl, blk_far h.b4 (by dsimp only; omega) _, ⟨Kd.R_set h.oa.p h.b3 (by decide) 2 _, Kd.R_set h.oa.k h.b3 (by decide) 2 _, Kd.R_set hR h.b3 (by decide) 2 _⟩, own_set h.ob h.b3, h.bel.setCell (by dsimp only; omega) _⟩
theorem CaI.setb0 {w W : World} {x a b : Nd} {A : Option Addr} {c : Nat} {l : List _} (h : CaI w x a b W) (hR : Kd.R k39 39 W w.heap.size (fun _ => True) (.slice A l.length c) l) :
    CaI w x (a) ({ b with A0 := A, c0 := c, ps := l }) (W.setCell ⟨w.heap.size + 1 + 1 + 1 + 1, 0, none⟩ (.slice A l.length c)) :=
  ⟨blk_far h.b0 (by dsimp only; omega) _, blk_far h.b1 (by dsimp only; omega) _, blk_far h.b2 (by dsimp only; omega) _, blk_far h.b3 (by dsimp only; omega) _, blk_put h.b4 0 _ rfl, own_set h.oa h.b4, ⟨Kd.R_set hR h.b4 (by decide) 0 _, Kd.R_set h.ob.k h.b4 (by decide) 0 _, Kd.R_set h.ob.d h.b4 (by decide) 0 _⟩, h.bel.setCell (by dsimp only; omega) _⟩
theorem CaI.setb1 {w W : World} {x a b : Nd} {A : Option Addr} {c : Nat} {l : List _} (h : CaI w x a b W) (hR : Kd.R Kd.string 9 W w.heap.size (fun _ => True) (.slice A l.length c) l) :
    CaI w x (a) ({ b with A1 := A, c1 := c, ks := l }) (W.setCell ⟨w.heap.size + 1 + 1 + 1 + 1, 1, none⟩ (.slice A l.length c)) :=
  ⟨blk_far h.b0 (by dsimp only; omega) _, blk_far h.b1 (by dsimp only; omega) _, blk_far h.b2 (by dsimp only; omega) _, blk_far h.b3 (by dsimp only; omega) _, blk_put h.b4 1 _ rfl, own_set h.oa h.b4, ⟨Kd.R_set h.ob.p h.b4 (by decide) 1 _, Kd.R_set hR h.b4 (by decide) 1 _, Kd.R_set h.ob.d h.b4 (by decide) 1 _⟩, h.bel.setCell (by dsimp only; omega) _⟩
theorem CaI.setb2 {w W : World} {x a b : Nd} {A : Option Addr} {c : Nat} {l : List _} (h : CaI w x a b W) (hR : Kd.R (Kd.int .u32) 65 W w.heap.size (fun _ => True) (.slice A l.length c) l) :
    CaI w x (a) ({ b with A2 := A, c2 := c, kd := l }) (W.setCell ⟨w.heap.size + 1 + 1 + 1 + 1, 2, none⟩ (.slice A l.length c)) :=
  ⟨blk_far h.b0 (by dsimp only; omega) _, blk_far h.b1 (by dsimp only; omega) _, blk_far h.b2 (by dsimp only; omega) _, blk_far h.b3 (by dsimp only; omega) _, blk_put h.b4 2 _ rfl, own_set h.oa h.b4, ⟨Kd.R_set h.ob.p h.b4 (by decide) 2 _, Kd.R_set h.ob.k h.b4 (by decide) 2 _, Kd.R_set hR h.b4 (by decide) 2 _⟩, h.bel.setCell (by dsimp only; omega) _⟩
/-- The same while the results are stored: whatever stands in their blocks. -/
structure CaJ (w : World) (x a b : Nd) (W : World) : Prop where
  b0 : W.heap[w.heap.size]? = some (.cells #[x.v0, x.v1, x.v2] 26 (0, 0))
  b1 : ∃ z0 z1 z2, W.heap[w.heap.size + 1]? = some (.cells #[z0, z1, z2] 26 (0, 0))
  b2 : ∃ z0 z1 z2, W.heap[w.heap.size + 1 + 1]? = some (.cells #[z0, z1, z2] 26 (0, 0))
  b3 : W.heap[w.heap.size + 1 + 1 + 1]? = some (.cells #[a.v0, a.v1, a.v2] 26 (0, 0))
  b4 : W.heap[w.heap.size + 1 + 1 + 1 + 1]? = some (.cells #[b.v0, b.v1, b.v2] 26 (0, 0))
  oa : a.Own W w.heap.size
  ob : b.Own W w.heap.size
  bel : Below w.heap.size w W
theorem CaI.toJ {w W : World} {x a b : Nd} (h : CaI w x a b W) : CaJ w x a b W := ⟨h.b0, ⟨_, _, _, h.b1⟩, ⟨_, _, _, h.b2⟩, h.b3, h.b4, h.oa, h.ob, h.bel⟩
theorem CaJ.set1 {w W : World} {x a b : Nd} {u0 u1 u2 : Value} (h : CaJ w x a b W) : CaJ w x a b (((W.setCell ⟨w.heap.size + 1, 0, none⟩ u0).setCell ⟨w.heap.size + 1, 1, none⟩ u1).setCell ⟨w.heap.size + 1, 2, none⟩ u2) := by
  obtain ⟨z0, z1, z2, h1⟩ := h.b1
  obtain ⟨y0, y1, y2, h2⟩ := h.b2
  exact ⟨blk_far3 h.b0 (by omega), ⟨_, _, _, blk_set3 h1⟩, ⟨_, _, _, blk_far3 h2 (by omega)⟩, blk_far3 h.b3 (by omega), blk_far3 h.b4 (by omega), h.oa.set3 h1, h.ob.set3 h1, below_set3 h.bel (by omega)⟩
theorem CaJ.set2 {w W : World} {x a b : Nd} {u0 u1 u2 : Value} (h : CaJ w x a b W) : CaJ w x a b (((W.setCell ⟨w.heap.size + 1 + 1, 0, none⟩ u0).setCell ⟨w.heap.size + 1 + 1, 1, none⟩ u1).setCell ⟨w.heap.size + 1 + 1, 2, none⟩ u2) := by
  obtain ⟨z0, z1, z2, h1⟩ := h.b1
  obtain ⟨y0, y1, y2, h2⟩ := h.b2
  exact ⟨blk_far3 h.b0 (by omega), ⟨_, _, _, blk_far3 h1 (by omega)⟩, ⟨_, _, _, blk_set3 h2⟩, blk_far3 h.b3 (by omega), blk_far3 h.b4 (by omega), h.oa.set3 h2, h.ob.set3 h2, below_set3 h.bel (by omega)⟩
def cutAt.T5 : Bool × List (List Nat × List Nat) := (true, [([], []), ([], []), ([1], [1]), ([2], [2]), ([3], [3]), ([4], [4]), ([], []), ([0, 0], [0]), ([5, 7, 0, 1, 2, 3, 4, 5, 7], [5]), ([6, 8, 0, 1, 2, 3, 4, 5, 6, 7, 8], [6])])
def cutAt.B5 : List Nat := [0, 0, 2, 6, 14, 30, 0, 1, 191, 511]
theorem cutAt.tab5 : rtab .any (opsOf Try.f52 5) = cutAt.T5 := by kernel_rfl
theorem cutAt.bits5 : waitsOk cutAt.T5.2 cutAt.B5 = true := by kernel_rfl
def cutAt.T10 : Bool × List (List Nat × List Nat) := (true, [([], []), ([], []), ([1], [1]), ([], []), ([3], [3]), ([2, 4], [2, 4]), ([5], [5]), ([], []), ([0, 0], [0]), ([6, 8, 0, 1, 2, 3, 4, 5, 6, 8], [6]), ([7, 9, 0, 1, 2, 3, 4, 5, 6, 7, 8, 9], [7])])
def cutAt.B10 : List Nat := [0, 0, 2, 0, 8, 30, 62, 0, 1, 383, 1023]
theorem cutAt.tab10 : rtab .any (opsOf Try.f52 10) = cutAt.T10 := by kernel_rfl
theorem cutAt.bits10 : waitsOk cutAt.T10.2 cutAt.B10 = true := by kernel_rfl
theorem cai_new (w : World) (x : Nd) : CaI w x Nd.none_ Nd.none_ (((((w.alloc (.cells #[x.v0, x.v1, x.v2] 26)).alloc (.cells #[.slice none 0 0, .slice none 0 0, .slice none 0 0] 26)).alloc (.cells #[.slice none 0 0, .slice none 0 0, .slice none 0 0] 26)).alloc (.cells #[.slice none 0 0, .slice none 0 0, .slice none 0 0] 26)).alloc (.cells #[.slice none 0 0, .slice none 0 0, .slice none 0 0] 26)) := by
  have e0 := blk_new w (.cells #[x.v0, x.v1, x.v2] 26)
  have e1 := blk_new (w.alloc (.cells #[x.v0, x.v1, x.v2] 26)) (.cells #[.slice none 0 0, .slice none 0 0, .slice none 0 0] 26)
  have e2 := blk_new ((w.alloc (.cells #[x.v0, x.v1, x.v2] 26)).alloc (.cells #[.slice none 0 0, .slice none 0 0, .slice none 0 0] 26)) (.cells #[.slice none 0 0, .slice none 0 0, .slice none 0 0] 26)
  have e3 := blk_new (((w.alloc (.cells #[x.v0, x.v1, x.v2] 26)).alloc (.cells #[.slice none 0 0, .slice none 0 0, .slice none 0 0] 26)).alloc (.cells #[.slice none 0 0, .slice none 0 0, .slice none 0 0] 26)) (.cells #[.slice none 0 0, .slice none 0 0, .slice none 0 0] 26)
  have e4 := blk_new ((((w.alloc (.cells #[x.v0, x.v1, x.v2] 26)).alloc (.cells #[.slice none 0 0, .slice none 0 0, .slice none 0 0] 26)).alloc (.cells #[.slice none 0 0, .slice none 0 0, .slice none 0 0] 26)).alloc (.cells #[.slice none 0 0, .slice none 0 0, .slice none 0 0] 26)) (.cells #[.slice none 0 0, .slice none 0 0, .slice none 0 0] 26)
  simp only [World.size_alloc] at e1 e2 e3 e4
  have hr := Below.refl w.heap.size w
  exact ⟨blk_alloc (blk_alloc (blk_alloc (blk_alloc e0 _) _) _) _, blk_alloc (blk_alloc (blk_alloc e1 _) _) _, blk_alloc (blk_alloc e2 _) _, blk_alloc e3 _, e4, ⟨Kd.R_nil _ _ _ _ _, Kd.R_nil _ _ _ _ _, Kd.R_nil _ _ _ _ _⟩, ⟨Kd.R_nil _ _ _ _ _, Kd.R_nil _ _ _ _ _, Kd.R_nil _ _ _ _ _⟩,
    ((((hr.alloc (Nat.le_refl _) _).alloc (by simp) _).alloc (by simp; omega) _).alloc (by simp; omega) _).alloc (by simp; omega) _⟩

set_option maxRecDepth 100000 in
set_option maxHeartbeats 4000000 in
theorem rcut_leaf (x : Nd) (m : Nat) (w : World) (h : x.At w) (hk : x.kd.length = 0) (h1 : 1 ≤ m) (h2 : m < x.ps.length) (h3 : x.ps.length ≤ 1000000) :
    Calls Try.prog 52 #[.agg #[x.v0, x.v1, x.v2], .int .i64 m] w fun e w' => ∃ (a b : Nd), e = .returned (.tuple #[.agg #[a.v0, a.v1, a.v2], .string (x.ps[m]'h2).f0, .agg #[b.v0, b.v1, b.v2]]) ∧
      a.Own w' w.heap.size ∧ b.Own w' w.heap.size ∧ (a.ps = x.ps.take m ∧ a.ks = [] ∧ a.kd = []) ∧ (b.ps = x.ps.drop m ∧ b.ks = [] ∧ b.kd = []) ∧ Below w.heap.size w w' := by
  obtain ⟨ad, hA, _, _⟩ := at_T39 h.p (m : Int) (by omega) (by omega)
  have hpc := h.pc
  have hc1 := Kd.C_take h.p (show m ≤ x.ps.length by omega)
  have hc2 := Kd.C_drop h.p (show m ≤ x.ps.length by omega) h.pc
  rw [if_neg (by omega), hA] at hc2
  rw [hA] at hc1
  obtain ⟨np, hnp⟩ : ∃ n, x.ps.length = n := ⟨_, rfl⟩
  obtain ⟨nd, hnd⟩ : ∃ n, x.kd.length = n := ⟨_, rfl⟩
  have l1 : (x.ps.take m).length = m := by rw [List.length_take]; omega
  have l2 : (x.ps.drop m).length = np - m := by rw [List.length_drop, hnp]
  have HC := Aside0.mk (And.intro hc1 hc2)
  have HL := Aside0.mk (And.intro l1 l2)
  obtain ⟨key, hkey⟩ : ∃ key, (x.ps[m]'h2).f0 = key := ⟨_, rfl⟩
  rw [hkey]
  have HK := Aside0.mk hkey
  have HNP := Aside0.mk (And.intro hnp hnd)
  have h4 : m < np := by omega
  have h5 : np ≤ x.c0 := by omega
  have h6 : np ≤ 1000000 := by omega
  have d0 : (((x.kd.length : Nat) : Int) == 0) = true := by rw [show ((x.kd.length : Nat) : Int) = 0 by omega]; rfl
  clear hk
  have i0 : (0 : Int) ≤ (m : Int) := by omega
  have i1 : (m : Int) < (np : Int) := by omega
  have i2 : (m : Int) ≤ (x.c0 : Int) := by omega
  have i3 : (np : Int) ≤ (x.c0 : Int) := by omega
  have i4 : ¬ x.c0 = m := by omega
  have i5 : (m : Int) ≤ (np : Int) := by omega
  have i6 : ¬ (x.c0 : Int) = (m : Int) := by omega
  have hv0 : x.v0 = .slice (some ad) np x.c0 := by unfold Nd.v0; rw [hA, hnp]
  have hv2 : x.v2 = .slice x.A2 x.kd.length x.c2 := rfl
  have HV := Aside0.mk (And.intro hv0 hv2)
  clear h hc1 hc2 hkey hA hnp hnd l1 l2 hpc hv0 hv2 h3
  go_enter Try.func52, Try.ntmps52
  go_upto_region 3 with (fail)
  obtain ⟨W1, hW1⟩ : ∃ W1, (((((w.alloc (.cells #[x.v0, x.v1, x.v2] 26)).alloc (.cells #[.slice none 0 0, .slice none 0 0, .slice none 0 0] 26)).alloc (.cells #[.slice none 0 0, .slice none 0 0, .slice none 0 0] 26)).alloc (.cells #[.slice none 0 0, .slice none 0 0, .slice none 0 0] 26)).alloc (.cells #[.slice none 0 0, .slice none 0 0, .slice none 0 0] 26)) = W1 := ⟨_, rfl⟩
  have I1 : Aside0 (CaI w x Nd.none_ Nd.none_ W1) := Aside0.mk (by rw [← hW1]; exact cai_new w x)
  rw [hW1]
  clear hW1
  go_upto_region 3 with (fail)
  go_cut [5] (fun v5 wc => v5 = .string ⟨#[]⟩ ∧ ∃ (A3 : Option Addr) (c3 : Nat), Aside0 (CaI w x { Nd.none_ with A0 := A3, c0 := c3, ps := x.ps.take m } Nd.none_ wc))
  case first =>
    have r0 : W1.cell? ⟨w.heap.size, 0, none⟩ = some (.slice (some ad) np x.c0) := by rw [← HV.out.1]; exact blk_cell I1.out.b0 0
    have p3 : W1.cell? ⟨w.heap.size + 1 + 1 + 1, 0, none⟩ = some (.slice none 0 0) := blk_cell I1.out.b3 0
    go_region_law (first
      | (refine step_new k39 (by rfl) (.tmp 14) (.tmp 18) 22 39 (.agg #[(.string ⟨#[]⟩), (.string ⟨#[]⟩)]) 32 (by rfl) Try.underlying22 info39 rfl (by decide) (by decide) (x.ps.take m) (some ad) m x.c0 (by rfl) (by rfl) (Kd.C_below HC.out.1 I1.out.drew.bel) (HL.out.1) (fun x cs h => h) (by omega) ?_
         intro An cn wn hR hb
         have JJ := Aside0.mk (And.intro (I1.out.drew.below hb) (Kd.R_lower hR I1.out.drew.bel.size))
         have pp : wn.cell? ⟨w.heap.size + 1 + 1 + 1, 0, none⟩ = some (.slice none 0 0) := blk_cell JJ.out.1.b3 0
         have ff := blk_frozen JJ.out.1.b3 0
         clear hR hb))
    all_goals
      go_wp2
      go_meet
      case rel =>
        have ht := CaI.seta0 (A := An) (c := cn) (l := (x.ps.take m)) JJ.out.1 (by rw [HL.out.1]; exact JJ.out.2)
        rw [HL.out.1] at ht
        exact ⟨rfl, An, cn, Aside0.mk ht⟩
  obtain ⟨rfl, A3, c3, I3⟩ := hcut
  go_upto_region 4 with (fail)
  go_cut [5] (fun v5 wc => v5 = .string ⟨#[]⟩ ∧ ∃ (A4 : Option Addr) (c4 : Nat), Aside0 (CaI w x { Nd.none_ with A0 := A3, c0 := c3, ps := x.ps.take m } { Nd.none_ with A0 := A4, c0 := c4, ps := x.ps.drop m } wc))
  case first =>
    have r0 : wc.cell? ⟨w.heap.size, 0, none⟩ = some (.slice (some ad) np x.c0) := by rw [← HV.out.1]; exact blk_cell I3.out.b0 0
    have p4 : wc.cell? ⟨w.heap.size + 1 + 1 + 1 + 1, 0, none⟩ = some (.slice none 0 0) := blk_cell I3.out.b4 0
    go_region_law (first
      | (refine step_new k39 (by rfl) (.tmp 22) (.tmp 26) 22 39 (.agg #[(.string ⟨#[]⟩), (.string ⟨#[]⟩)]) 32 (by rfl) Try.underlying22 info39 rfl (by decide) (by decide) (x.ps.drop m) (some (ad.add (m * 2))) (np - m) (x.c0 - m) (by rfl) (by rfl) (Kd.C_below HC.out.2 I3.out.drew.bel) (HL.out.2) (fun x cs h => h) (by omega) ?_
         intro An cn wn hR hb
         have JJ := Aside0.mk (And.intro (I3.out.drew.below hb) (Kd.R_lower hR I3.out.drew.bel.size))
         have pp : wn.cell? ⟨w.heap.size + 1 + 1 + 1 + 1, 0, none⟩ = some (.slice none 0 0) := blk_cell JJ.out.1.b4 0
         have ff := blk_frozen JJ.out.1.b4 0
         clear hR hb))
    all_goals
      go_wp2
      go_meet
      case rel =>
        have ht := CaI.setb0 (A := An) (c := cn) (l := (x.ps.drop m)) JJ.out.1 (by rw [HL.out.2]; exact JJ.out.2)
        rw [HL.out.2] at ht
        exact ⟨rfl, An, cn, Aside0.mk ht⟩
  obtain ⟨rfl, A4, c4, I4⟩ := hcut
  go_upto_region 5 with (fail)
  obtain ⟨a, ha⟩ : ∃ a, { Nd.none_ with A0 := A3, c0 := c3, ps := x.ps.take m } = a := ⟨_, rfl⟩
  obtain ⟨b, hb⟩ : ∃ b, { Nd.none_ with A0 := A4, c0 := c4, ps := x.ps.drop m } = b := ⟨_, rfl⟩
  have HA : Aside0 (a.ps = x.ps.take m ∧ a.ks = [] ∧ a.kd = []) := Aside0.mk (by rw [← ha]; exact ⟨rfl, rfl, rfl⟩)
  have HBB : Aside0 (b.ps = x.ps.drop m ∧ b.ks = [] ∧ b.kd = []) := Aside0.mk (by rw [← hb]; exact ⟨rfl, rfl, rfl⟩)
  rw [ha, hb] at I4
  have JJ := I4.out.drew.toJ
  clear ha hb I4
  obtain ⟨ad', hA2, _, _⟩ := at_T39 JJ.ob.at_.p (0 : Int) (by omega) (by rw [HBB.out.1, HL.out.2]; omega)
  have hv : b.v0 = .slice (some ad') (np - m) b.c0 := by unfold Nd.v0; rw [hA2, HBB.out.1, HL.out.2]
  have hk0 : (rd_T39 b.ps 0).f0 = key := by
    rw [HBB.out.1, ← HK.out]
    have := rdT_nat (x.ps.drop m) 0 (by rw [HL.out.2]; omega)
    rw [show ((0 : Nat) : Int) = 0 from rfl] at this
    rw [this, List.getElem_drop]
    rfl
  have HKJ : Aside0 (∀ W, CaJ w x a b W → W.cell? ad' = some (.string key)) := Aside0.mk (fun W hW => by
    obtain ⟨ad2, hA3, x0, _⟩ := at_T39 hW.ob.at_.p (0 : Int) (by omega) (by rw [HBB.out.1, HL.out.2]; omega)
    rw [hA2] at hA3
    obtain rfl := Option.some.inj hA3
    rw [hk0] at x0
    simp only [Int.toNat_zero, Nat.zero_mul] at x0
    rwa [Addr.add_zero'] at x0)
  have j1 : (0 : Int) < ((np - m : Nat) : Int) := by omega
  have j0 : 0 < np - m := by omega
  have HVB := Aside0.mk hv
  clear hA2 hk0 hv
  refine start_ (n := 10) (S := fun W' => CaJ w x a b W') (ds := []) #[false, false, false, false, false, false, false, false, false, false] (by kernel_rfl) rfl rfl JJ (fun hHeld => ?_)
  refine with_tabW cutAt.tab5 cutAt.bits5 (fun HT_ HW_ => ?_)
  generalize wc.drew = wd at hHeld ⊢
  refine take_ (i := 0) (N := some 29) (v := ?_) (a' := ?_) #[true, false, false, false, false, false, false, false, false, false] rfl rfl (take_ofW HT_.out HW_.out (by kernel_rfl)) (fun _ _ _ h => h) (Or.inl ⟨by rfl, ?_⟩) hHeld ?_ ?_; rotate_left; (intro w' hS; have q0 := blk_cell hS.b3 0; have q1 := blk_cell hS.b3 1; have q2 := blk_cell hS.b3 2; go_simp; with_reducible rfl); rotate_left; (simp only [Act.put, List.setIfInBounds_toArray, List.set_cons_zero, List.set_cons_succ, i64_w, i32_w]; rfl)
  refine pure_ (i := 1) (N := some 30) (v := ?_) (a' := ?_) #[true, true, false, false, false, false, false, false, false, false] rfl rfl (any_of HT_.out (by kernel_rfl)) (fun _ _ _ h => h) (Or.inl ⟨by rfl, ?_⟩) ?_ ?_; rotate_left; (intro w'; go_simp; with_reducible rfl); rotate_left; (simp only [Act.put, List.setIfInBounds_toArray, List.set_cons_zero, List.set_cons_succ, i64_w, i32_w]; rfl)
  refine take_ (i := 2) (N := some 31) (v := ?_) (a' := ?_) #[true, true, true, false, false, false, false, false, false, false] rfl rfl (take_ofW HT_.out HW_.out (by kernel_rfl)) (fun _ _ _ h => h) (Or.inl ⟨by rfl, ?_⟩) hHeld ?_ ?_; rotate_left; (intro w' hS; have q0 := blk_cell hS.b4 0; rw [show (#[b.v0, b.v1, b.v2] : Array Value)[0]? = some (.slice (some ad') (np - m) b.c0) from congrArg some HVB.out] at q0; go_simp; with_reducible rfl); rotate_left; (simp only [Act.put, List.setIfInBounds_toArray, List.set_cons_zero, List.set_cons_succ, i64_w, i32_w]; rfl)
  refine pure_ (i := 3) (N := some 32) (v := ?_) (a' := ?_) #[true, true, true, true, false, false, false, false, false, false] rfl rfl (any_of HT_.out (by kernel_rfl)) (fun _ _ _ h => h) (Or.inl ⟨by rfl, ?_⟩) ?_ ?_; rotate_left; (intro w'; go_simp; with_reducible rfl); rotate_left; (simp only [Act.put, List.setIfInBounds_toArray, List.set_cons_zero, List.set_cons_succ, i64_w, i32_w]; rfl)
  refine pure_ (i := 4) (N := some 33) (v := ?_) (a' := ?_) #[true, true, true, true, true, false, false, false, false, false] rfl rfl (any_of HT_.out (by kernel_rfl)) (fun _ _ _ h => h) (Or.inl ⟨by rfl, ?_⟩) ?_ ?_; rotate_left; (intro w'; go_simp; with_reducible rfl); rotate_left; (simp only [Act.put, List.setIfInBounds_toArray, List.set_cons_zero, List.set_cons_succ, i64_w, i32_w]; rfl)
  refine take_ (i := 5) (N := some 34) (v := ?_) (a' := ?_) #[true, true, true, true, true, true, false, false, false, false] rfl rfl (take_ofW HT_.out HW_.out (by kernel_rfl)) (fun _ _ _ h => h) (Or.inl ⟨by rfl, ?_⟩) hHeld ?_ ?_; rotate_left; (intro w' hS; have q0 := HKJ.out w' hS; go_simp; with_reducible rfl); rotate_left; (simp only [Act.put, List.setIfInBounds_toArray, List.set_cons_zero, List.set_cons_succ, i64_w, i32_w]; rfl)
  refine take_ (i := 6) (N := some 35) (v := ?_) (a' := ?_) #[true, true, true, true, true, true, true, false, false, false] rfl rfl (take_ofW HT_.out HW_.out (by kernel_rfl)) (fun _ _ _ h => h) (Or.inl ⟨by rfl, ?_⟩) hHeld ?_ ?_; rotate_left; (intro w' hS; have q0 := blk_cell hS.b4 0; have q1 := blk_cell hS.b4 1; have q2 := blk_cell hS.b4 2; go_simp; with_reducible rfl); rotate_left; (simp only [Act.put, List.setIfInBounds_toArray, List.set_cons_zero, List.set_cons_succ, i64_w, i32_w]; rfl)
  refine one_ (i := 7) (N := none) #[true, true, true, true, true, true, true, true, false, false] rfl rfl (one_of HT_.out (by kernel_rfl)) (by decide) (fun K hK => ?_)
  obtain ⟨z0, z1, z2, h1⟩ := hHeld.b1
  have p0 := blk_cell h1 0
  have p1 := blk_cell h1 1
  have p2 := blk_cell h1 2
  have f0 := blk_frozen h1 0
  have f1 := blk_frozen h1 1
  have f2 := blk_frozen h1 2
  refine skip_ (w1 := ?_) (by rfl) rfl ?_ ?_
  rotate_left
  · go_simp
    rfl
  clear p0 p1 p2 f0 f1 f2
  refine hK.out _ _ hHeld.set1 (fun hHeld => ?_)
  clear hK K
  have h1' := blk_set3 (u0 := a.v0) (u1 := a.v1) (u2 := a.v2) h1
  clear h1
  generalize (((wd.setCell ⟨w.heap.size + 1, 0, none⟩ a.v0).setCell ⟨w.heap.size + 1, 1, none⟩ a.v1).setCell ⟨w.heap.size + 1, 2, none⟩ a.v2) = we at hHeld h1' ⊢
  refine pure_ (i := 8) (N := some 5) (v := ?_) (a' := ?_) #[true, true, true, true, true, true, true, true, true, false] rfl rfl (any_of HT_.out (by kernel_rfl)) (fun _ _ _ h => h) (Or.inl ⟨by rfl, ?_⟩) ?_ ?_; rotate_left; (intro w'; go_simp; with_reducible rfl); rotate_left; (simp only [Act.put, List.setIfInBounds_toArray, List.set_cons_zero, List.set_cons_succ, i64_w, i32_w]; rfl)
  refine one_ (i := 9) (N := none) #[true, true, true, true, true, true, true, true, true, true] rfl rfl (one_of HT_.out (by kernel_rfl)) (by decide) (fun K hK => ?_)
  obtain ⟨z0, z1, z2, h2⟩ := hHeld.b2
  have p0 := blk_cell h2 0
  have p1 := blk_cell h2 1
  have p2 := blk_cell h2 2
  have f0 := blk_frozen h2 0
  have f1 := blk_frozen h2 1
  have f2 := blk_frozen h2 2
  refine skip_ (w1 := ?_) (by rfl) rfl ?_ ?_
  rotate_left
  · go_simp
    rfl
  clear p0 p1 p2 f0 f1 f2
  refine hK.out _ _ hHeld.set2 (fun hHeld => ?_)
  clear hK K
  have h1'' := blk_far3 (g := w.heap.size + 1 + 1) (u0 := b.v0) (u1 := b.v1) (u2 := b.v2) h1' (by omega)
  have h2'' := blk_set3 (u0 := b.v0) (u1 := b.v1) (u2 := b.v2) h2
  clear h1' h2
  refine done_ (done_of HT_.out (by kernel_rfl)) ?_
  go_wp2
  refine bodyPost_ret (results_list (rs := [.cell 4 26, .tmp 5, .cell 6 26]) rfl (by simp) (.cell (w.heap.size + 1) 26 #[a.v0, a.v1, a.v2] (0, 0) _ rfl h1'' Try.underlying26 rfl (by kernel_rfl) (.tmp (.cell (w.heap.size + 1 + 1) 26 #[b.v0, b.v1, b.v2] (0, 0) _ rfl h2'' Try.underlying26 rfl (by kernel_rfl) .nil)))) rfl ?_
  exact ⟨a, b, rfl, hHeld.oa, hHeld.ob, HA.out, HBB.out, hHeld.bel⟩

set_option maxRecDepth 100000 in
set_option maxHeartbeats 4000000 in
theorem rcut_branch (x : Nd) (q : Nat) (w : World) (h : x.At w) (hk : x.kd.length = x.ks.length + 1) (h2 : q + 1 < x.ks.length) (h3 : x.ks.length ≤ 100000) :
    Calls Try.prog 52 #[.agg #[x.v0, x.v1, x.v2], .int .i64 ((q : Int) + 1)] w fun e w' => ∃ (a b : Nd), e = .returned (.tuple #[.agg #[a.v0, a.v1, a.v2], .string (x.ks[q]'(by omega)), .agg #[b.v0, b.v1, b.v2]]) ∧
      a.Own w' w.heap.size ∧ b.Own w' w.heap.size ∧ (a.ps = [] ∧ a.ks = x.ks.take q ∧ a.kd = x.kd.take (q + 1)) ∧ (b.ps = [] ∧ b.ks = x.ks.drop (q + 1) ∧ b.kd = x.kd.drop (q + 1)) ∧ Below w.heap.size w w' := by
  obtain ⟨a1, hA1, x0⟩ := Kd.at_string h.k (q : Int) (by omega) (by omega)
  rw [rdOf_nat x.ks q (by omega), Int.toNat_natCast] at x0
  obtain ⟨a2, hA2, _⟩ := Kd.at_int h.d (q : Int) (by omega) (by omega)
  have hkc := h.kc
  have hdc := h.dc
  have hc1 := Kd.C_take h.d (show q + 1 ≤ x.kd.length by omega)
  have hc2 := Kd.C_take h.k (show q ≤ x.ks.length by omega)
  have hc3 := Kd.C_drop h.d (show q + 1 ≤ x.kd.length by omega) hdc
  have hc4 := Kd.C_drop h.k (show q + 1 ≤ x.ks.length by omega) hkc
  rw [if_neg (by omega), hA2] at hc3
  rw [if_neg (by omega), hA1] at hc4
  rw [hA2] at hc1
  rw [hA1] at hc2
  have hc3' : Kd.C (Kd.int .u32) w (some (a2.add (q + 1))) (x.kd.drop (q + 1)).length (x.kd.drop (q + 1)) := by rw [Option.map_some, show (q + 1) * (Kd.int .u32).sz = q + 1 from Nat.mul_one _] at hc3; exact hc3
  have hc4' : Kd.C Kd.string w (some (a1.add (q + 1))) (x.ks.drop (q + 1)).length (x.ks.drop (q + 1)) := by rw [Option.map_some, show (q + 1) * Kd.string.sz = q + 1 from Nat.mul_one _] at hc4; exact hc4
  obtain ⟨nk, hnk⟩ : ∃ n, x.ks.length = n := ⟨_, rfl⟩
  obtain ⟨key, hkey⟩ : ∃ key, x.ks[q]'(by omega) = key := ⟨_, rfl⟩
  rw [hkey] at x0 ⊢
  have l1 : (x.kd.take (q + 1)).length = q + 1 := by rw [List.length_take]; omega
  have l2 : (x.ks.take q).length = q := by rw [List.length_take]; omega
  have l3 : (x.kd.drop (q + 1)).length = nk - q := by rw [List.length_drop]; omega
  have l4 : (x.ks.drop (q + 1)).length = nk - (q + 1) := by rw [List.length_drop]; omega
  have HC := Aside0.mk (And.intro hc1 (And.intro hc2 (And.intro hc3' hc4')))
  have HL := Aside0.mk (And.intro l1 (And.intro l2 (And.intro l3 l4)))
  have HX := Aside0.mk (And.intro x0 (World.block_lt_of_cell? w _ x0))
  have hv1 : x.v1 = .slice (some a1) nk x.c1 := by unfold Nd.v1; rw [hA1, hnk]
  have hv2 : x.v2 = .slice (some a2) (nk + 1) x.c2 := by unfold Nd.v2; rw [hA2, hk, hnk]
  have HV := Aside0.mk (And.intro hv1 hv2)
  rw [hnk] at h2 h3 hk hkc
  rw [hk] at hdc
  have i0 : (0 : Int) ≤ (q : Int) := by omega
  have i1 : (q : Int) + 1 < (nk : Int) := by omega
  have i2 : (nk : Int) ≤ (x.c1 : Int) := by omega
  have i3 : (nk : Int) + 1 ≤ (x.c2 : Int) := by omega
  have i4 : ¬ x.c1 = q + 1 := by omega
  have i5 : ¬ x.c2 = q + 1 := by omega
  have i6 : ¬ (x.c1 : Int) = (q : Int) + 1 := by omega
  have i7 : ¬ (x.c2 : Int) = (q : Int) + 1 := by omega
  have i10 : (0 : Int) ≤ (q : Int) + 1 := by omega
  have e0 : ¬ (nk : Int) + 1 = 0 := by omega
  have i8 : (q : Int) ≤ (x.c1 : Int) := by omega
  have i9 : (q : Int) + 1 ≤ (x.c2 : Int) := by omega
  have j1 : (q : Int) + 1 ≤ (nk : Int) := by omega
  have j2 : (q : Int) + 1 ≤ (nk : Int) + 1 := by omega
  have j3 : (q : Int) < (nk : Int) := by omega
  have wr2 : IntKind.i64.wrap (q : Int) = (q : Int) := IntWalk.i64_in _ (by omega)
  have wr1 : IntKind.i64.wrap ((q : Int) + 1 - 1) = (q : Int) := by rw [show (q : Int) + 1 - 1 = q by omega]; exact IntWalk.i64_in _ (by omega)
  clear h hc1 hc2 hc3 hc4 hc3' hc4' hkey hA1 hA2 hnk l1 l2 l3 l4 x0 hv1 hv2 hk
  go_enter Try.func52, Try.ntmps52
  go_upto_region 2 with (fail)
  obtain ⟨W1, hW1⟩ : ∃ W1, (((((w.alloc (.cells #[x.v0, x.v1, x.v2] 26)).alloc (.cells #[.slice none 0 0, .slice none 0 0, .slice none 0 0] 26)).alloc (.cells #[.slice none 0 0, .slice none 0 0, .slice none 0 0] 26)).alloc (.cells #[.slice none 0 0, .slice none 0 0, .slice none 0 0] 26)).alloc (.cells #[.slice none 0 0, .slice none 0 0, .slice none 0 0] 26)) = W1 := ⟨_, rfl⟩
  have I1 : Aside0 (CaI w x Nd.none_ Nd.none_ W1) := Aside0.mk (by rw [← hW1]; exact cai_new w x)
  rw [hW1]
  clear hW1
  have r0 : W1.cell? ⟨w.heap.size, 2, none⟩ = some (.slice (some a2) (nk + 1) x.c2) := by rw [← HV.out.2]; exact blk_cell I1.out.b0 2
  go_upto_region 6 with (fail)
  go_cut [5] (fun v5 wc => v5 = .string ⟨#[]⟩ ∧ ∃ (A6 : Option Addr) (c6 : Nat), Aside0 (CaI w x { Nd.none_ with A2 := A6, c2 := c6, kd := x.kd.take (q + 1) } Nd.none_ wc))
  case first =>
    have r0 : W1.cell? ⟨w.heap.size, 2, none⟩ = some (.slice (some a2) (nk + 1) x.c2) := by rw [← HV.out.2]; exact blk_cell I1.out.b0 2
    have p6 : W1.cell? ⟨w.heap.size + 1 + 1 + 1, 2, none⟩ = some (.slice none 0 0) := blk_cell I1.out.b3 2
    go_region_law (first
      | (refine step_new (Kd.int .u32) (by rfl) (.tmp 37) (.tmp 41) 24 65 (.int .u32 0) 4 (by rfl) Try.underlying24 info65 rfl (by decide) (by decide) (x.kd.take (q + 1)) (some a2) (q + 1) x.c2 (by rfl) (by rfl) (Kd.C_below HC.out.1 I1.out.drew.bel) (HL.out.1) (fun x cs h => h) (by omega) ?_
         intro An cn wn hR hb
         have JJ := Aside0.mk (And.intro (I1.out.drew.below hb) (Kd.R_lower hR I1.out.drew.bel.size))
         have pp : wn.cell? ⟨w.heap.size + 1 + 1 + 1, 2, none⟩ = some (.slice none 0 0) := blk_cell JJ.out.1.b3 2
         have ff := blk_frozen JJ.out.1.b3 2
         clear hR hb))
    all_goals
      go_wp2
      go_meet
      case rel =>
        have ht := CaI.seta2 (A := An) (c := cn) (l := (x.kd.take (q + 1))) JJ.out.1 (by rw [HL.out.1]; exact JJ.out.2)
        rw [HL.out.1] at ht
        exact ⟨rfl, An, cn, Aside0.mk ht⟩
  obtain ⟨rfl, A6, c6, I6⟩ := hcut
  go_upto_region 7 with (fail)
  go_cut [5] (fun v5 wc => v5 = .string ⟨#[]⟩ ∧ ∃ (A7 : Option Addr) (c7 : Nat), Aside0 (CaI w x { { Nd.none_ with A2 := A6, c2 := c6, kd := x.kd.take (q + 1) } with A1 := A7, c1 := c7, ks := x.ks.take q } Nd.none_ wc))
  case first =>
    have r0 : wc.cell? ⟨w.heap.size, 1, none⟩ = some (.slice (some a1) nk x.c1) := by rw [← HV.out.1]; exact blk_cell I6.out.b0 1
    have p7 : wc.cell? ⟨w.heap.size + 1 + 1 + 1, 1, none⟩ = some (.slice none 0 0) := blk_cell I6.out.b3 1
    go_region_law (first
      | (refine step_new Kd.string (by rfl) (.tmp 45) (.tmp 50) 23 9 (.string ⟨#[]⟩) 16 (by rfl) Try.underlying23 info9 rfl (by decide) (by decide) (x.ks.take q) (some a1) q x.c1 (by rfl) (by rfl) (Kd.C_below HC.out.2.1 I6.out.drew.bel) (HL.out.2.1) (fun x cs h => h) (by omega) ?_
         intro An cn wn hR hb
         have JJ := Aside0.mk (And.intro (I6.out.drew.below hb) (Kd.R_lower hR I6.out.drew.bel.size))
         have pp : wn.cell? ⟨w.heap.size + 1 + 1 + 1, 1, none⟩ = some (.slice none 0 0) := blk_cell JJ.out.1.b3 1
         have ff := blk_frozen JJ.out.1.b3 1
         clear hR hb))
    all_goals
      go_wp2
      go_meet
      case rel =>
        have ht := CaI.seta1 (A := An) (c := cn) (l := (x.ks.take q)) JJ.out.1 (by rw [HL.out.2.1]; exact JJ.out.2)
        rw [HL.out.2.1] at ht
        exact ⟨rfl, An, cn, Aside0.mk ht⟩
  obtain ⟨rfl, A7, c7, I7⟩ := hcut
  go_upto_region 8 with (fail)
  go_cut [5] (fun v5 wc => v5 = .string ⟨#[]⟩ ∧ ∃ (A8 : Option Addr) (c8 : Nat), Aside0 (CaI w x { { Nd.none_ with A2 := A6, c2 := c6, kd := x.kd.take (q + 1) } with A1 := A7, c1 := c7, ks := x.ks.take q } { Nd.none_ with A2 := A8, c2 := c8, kd := x.kd.drop (q + 1) } wc))
  case first =>
    have r0 : wc.cell? ⟨w.heap.size, 2, none⟩ = some (.slice (some a2) (nk + 1) x.c2) := by rw [← HV.out.2]; exact blk_cell I7.out.b0 2
    have p8 : wc.cell? ⟨w.heap.size + 1 + 1 + 1 + 1, 2, none⟩ = some (.slice none 0 0) := blk_cell I7.out.b4 2
    go_region_law (first
      | (refine step_new (Kd.int .u32) (by rfl) (.tmp 54) (.tmp 58) 24 65 (.int .u32 0) 4 (by rfl) Try.underlying24 info65 rfl (by decide) (by decide) (x.kd.drop (q + 1)) (some (a2.add (q + 1))) (nk - q) (x.c2 - (q + 1)) (by rfl) (by rfl) (Kd.C_below HC.out.2.2.1 I7.out.drew.bel) (HL.out.2.2.1) (fun x cs h => h) (by omega) ?_
         intro An cn wn hR hb
         have JJ := Aside0.mk (And.intro (I7.out.drew.below hb) (Kd.R_lower hR I7.out.drew.bel.size))
         have pp : wn.cell? ⟨w.heap.size + 1 + 1 + 1 + 1, 2, none⟩ = some (.slice none 0 0) := blk_cell JJ.out.1.b4 2
         have ff := blk_frozen JJ.out.1.b4 2
         clear hR hb))
    all_goals
      go_wp2
      go_meet
      case rel =>
        have ht := CaI.setb2 (A := An) (c := cn) (l := (x.kd.drop (q + 1))) JJ.out.1 (by rw [HL.out.2.2.1]; exact JJ.out.2)
        rw [HL.out.2.2.1] at ht
        exact ⟨rfl, An, cn, Aside0.mk ht⟩
  obtain ⟨rfl, A8, c8, I8⟩ := hcut
  go_upto_region 9 with (fail)
  go_cut [5] (fun v5 wc => v5 = .string ⟨#[]⟩ ∧ ∃ (A9 : Option Addr) (c9 : Nat), Aside0 (CaI w x { { Nd.none_ with A2 := A6, c2 := c6, kd := x.kd.take (q + 1) } with A1 := A7, c1 := c7, ks := x.ks.take q } { { Nd.none_ with A2 := A8, c2 := c8, kd := x.kd.drop (q + 1) } with A1 := A9, c1 := c9, ks := x.ks.drop (q + 1) } wc))
  case first =>
    have r0 : wc.cell? ⟨w.heap.size, 1, none⟩ = some (.slice (some a1) nk x.c1) := by rw [← HV.out.1]; exact blk_cell I8.out.b0 1
    have p9 : wc.cell? ⟨w.heap.size + 1 + 1 + 1 + 1, 1, none⟩ = some (.slice none 0 0) := blk_cell I8.out.b4 1
    go_region_law (first
      | (refine step_new Kd.string (by rfl) (.tmp 62) (.tmp 66) 23 9 (.string ⟨#[]⟩) 16 (by rfl) Try.underlying23 info9 rfl (by decide) (by decide) (x.ks.drop (q + 1)) (some (a1.add (q + 1))) (nk - (q + 1)) (x.c1 - (q + 1)) (by rfl) (by rfl) (Kd.C_below HC.out.2.2.2 I8.out.drew.bel) (HL.out.2.2.2) (fun x cs h => h) (by omega) ?_
         intro An cn wn hR hb
         have JJ := Aside0.mk (And.intro (I8.out.drew.below hb) (Kd.R_lower hR I8.out.drew.bel.size))
         have pp : wn.cell? ⟨w.heap.size + 1 + 1 + 1 + 1, 1, none⟩ = some (.slice none 0 0) := blk_cell JJ.out.1.b4 1
         have ff := blk_frozen JJ.out.1.b4 1
         clear hR hb))
    all_goals
      go_wp2
      go_meet
      case rel =>
        have ht := CaI.setb1 (A := An) (c := cn) (l := (x.ks.drop (q + 1))) JJ.out.1 (by rw [HL.out.2.2.2]; exact JJ.out.2)
        rw [HL.out.2.2.2] at ht
        exact ⟨rfl, An, cn, Aside0.mk ht⟩
  obtain ⟨rfl, A9, c9, I9⟩ := hcut
  go_upto_region 10 with (fail)
  obtain ⟨a, ha⟩ : ∃ a, { { Nd.none_ with A2 := A6, c2 := c6, kd := x.kd.take (q + 1) } with A1 := A7, c1 := c7, ks := x.ks.take q } = a := ⟨_, rfl⟩
  obtain ⟨b, hb⟩ : ∃ b, { { Nd.none_ with A2 := A8, c2 := c8, kd := x.kd.drop (q + 1) } with A1 := A9, c1 := c9, ks := x.ks.drop (q + 1) } = b := ⟨_, rfl⟩
  have HA : Aside0 (a.ps = [] ∧ a.ks = x.ks.take q ∧ a.kd = x.kd.take (q + 1)) := Aside0.mk (by rw [← ha]; exact ⟨rfl, rfl, rfl⟩)
  have HBB : Aside0 (b.ps = [] ∧ b.ks = x.ks.drop (q + 1) ∧ b.kd = x.kd.drop (q + 1)) := Aside0.mk (by rw [← hb]; exact ⟨rfl, rfl, rfl⟩)
  rw [ha, hb] at I9
  have JJ := I9.out.drew.toJ
  clear ha hb I9
  have HKJ : Aside0 (∀ W, CaJ w x a b W → W.cell? (a1.add q) = some (.string key)) := Aside0.mk (fun W hW => (hW.bel.cell HX.out.2).trans HX.out.1)
  refine start_ (n := 11) (S := fun W' => CaJ w x a b W') (ds := []) #[false, false, false, false, false, false, false, false, false, false, false] (by kernel_rfl) rfl rfl JJ (fun hHeld => ?_)
  refine with_tabW cutAt.tab10 cutAt.bits10 (fun HT_ HW_ => ?_)
  generalize wc.drew = wd at hHeld ⊢
  refine take_ (i := 0) (N := some 69) (v := ?_) (a' := ?_) #[true, false, false, false, false, false, false, false, false, false, false] rfl rfl (take_ofW HT_.out HW_.out (by kernel_rfl)) (fun _ _ _ h => h) (Or.inl ⟨by rfl, ?_⟩) hHeld ?_ ?_; rotate_left; (intro w' hS; have q0 := blk_cell hS.b3 0; have q1 := blk_cell hS.b3 1; have q2 := blk_cell hS.b3 2; go_simp; with_reducible rfl); rotate_left; (simp only [Act.put, List.setIfInBounds_toArray, List.set_cons_zero, List.set_cons_succ, i64_w, i32_w]; rfl)
  refine pure_ (i := 1) (N := some 70) (v := ?_) (a' := ?_) #[true, true, false, false, false, false, false, false, false, false, false] rfl rfl (any_of HT_.out (by kernel_rfl)) (fun _ _ _ h => h) (Or.inl ⟨by rfl, ?_⟩) ?_ ?_; rotate_left; (intro w'; go_simp; with_reducible rfl); rotate_left; (simp only [Act.put, List.setIfInBounds_toArray, List.set_cons_zero, List.set_cons_succ, i64_w, i32_w]; rfl)
  refine take_ (i := 2) (N := some 71) (v := ?_) (a' := ?_) #[true, true, true, false, false, false, false, false, false, false, false] rfl rfl (take_ofW HT_.out HW_.out (by kernel_rfl)) (fun _ _ _ h => h) (Or.inl ⟨by rfl, ?_⟩) hHeld ?_ ?_; rotate_left; (intro w' hS; have q0 := blk_cell hS.b0 1; rw [show (#[x.v0, x.v1, x.v2] : Array Value)[1]? = some (.slice (some a1) nk x.c1) from congrArg some HV.out.1] at q0; go_simp; with_reducible rfl); rotate_left; (simp only [Act.put, List.setIfInBounds_toArray, List.set_cons_zero, List.set_cons_succ, i64_w, i32_w]; rfl)
  refine pure_ (i := 3) (N := some 72) (v := ?_) (a' := ?_) #[true, true, true, true, false, false, false, false, false, false, false] rfl rfl (any_of HT_.out (by kernel_rfl)) (fun _ _ _ h => h) (Or.inl ⟨by rfl, ?_⟩) ?_ ?_; rotate_left; (intro w'; go_simp; with_reducible rfl); rotate_left; (simp only [Act.put, List.setIfInBounds_toArray, List.set_cons_zero, List.set_cons_succ, i64_w, i32_w]; rfl)
  refine pure_ (i := 4) (N := some 73) (v := ?_) (a' := ?_) #[true, true, true, true, true, false, false, false, false, false, false] rfl rfl (any_of HT_.out (by kernel_rfl)) (fun _ _ _ h => h) (Or.inl ⟨by rfl, ?_⟩) ?_ ?_; rotate_left; (intro w'; go_simp; with_reducible rfl); rotate_left; (simp only [Act.put, List.setIfInBounds_toArray, List.set_cons_zero, List.set_cons_succ, i64_w, i32_w]; rfl)
  refine pure_ (i := 5) (N := some 74) (v := ?_) (a' := ?_) #[true, true, true, true, true, true, false, false, false, false, false] rfl rfl (any_of HT_.out (by kernel_rfl)) (fun _ _ _ h => h) (Or.inl ⟨by rfl, ?_⟩) ?_ ?_; rotate_left; (intro w'; go_simp; with_reducible rfl); rotate_left; (simp only [Act.put, List.setIfInBounds_toArray, List.set_cons_zero, List.set_cons_succ, i64_w, i32_w]; rfl)
  refine take_ (i := 6) (N := some 75) (v := ?_) (a' := ?_) #[true, true, true, true, true, true, true, false, false, false, false] rfl rfl (take_ofW HT_.out HW_.out (by kernel_rfl)) (fun _ _ _ h => h) (Or.inl ⟨by rfl, ?_⟩) hHeld ?_ ?_; rotate_left; (intro w' hS; have q0 := HKJ.out w' hS; go_simp; with_reducible rfl); rotate_left; (simp only [Act.put, List.setIfInBounds_toArray, List.set_cons_zero, List.set_cons_succ, i64_w, i32_w]; rfl)
  refine take_ (i := 7) (N := some 76) (v := ?_) (a' := ?_) #[true, true, true, true, true, true, true, true, false, false, false] rfl rfl (take_ofW HT_.out HW_.out (by kernel_rfl)) (fun _ _ _ h => h) (Or.inl ⟨by rfl, ?_⟩) hHeld ?_ ?_; rotate_left; (intro w' hS; have q0 := blk_cell hS.b4 0; have q1 := blk_cell hS.b4 1; have q2 := blk_cell hS.b4 2; go_simp; with_reducible rfl); rotate_left; (simp only [Act.put, List.setIfInBounds_toArray, List.set_cons_zero, List.set_cons_succ, i64_w, i32_w]; rfl)
  refine one_ (i := 8) (N := none) #[true, true, true, true, true, true, true, true, true, false, false] rfl rfl (one_of HT_.out (by kernel_rfl)) (by decide) (fun K hK => ?_)
  obtain ⟨z0, z1, z2, h1⟩ := hHeld.b1
  have p0 := blk_cell h1 0
  have p1 := blk_cell h1 1
  have p2 := blk_cell h1 2
  have f0 := blk_frozen h1 0
  have f1 := blk_frozen h1 1
  have f2 := blk_frozen h1 2
  refine skip_ (w1 := ?_) (by rfl) rfl ?_ ?_
  rotate_left
  · go_simp
    rfl
  clear p0 p1 p2 f0 f1 f2
  refine hK.out _ _ hHeld.set1 (fun hHeld => ?_)
  clear hK K
  have h1' := blk_set3 (u0 := a.v0) (u1 := a.v1) (u2 := a.v2) h1
  clear h1
  generalize (((wd.setCell ⟨w.heap.size + 1, 0, none⟩ a.v0).setCell ⟨w.heap.size + 1, 1, none⟩ a.v1).setCell ⟨w.heap.size + 1, 2, none⟩ a.v2) = we at hHeld h1' ⊢
  refine pure_ (i := 9) (N := some 5) (v := ?_) (a' := ?_) #[true, true, true, true, true, true, true, true, true, true, false] rfl rfl (any_of HT_.out (by kernel_rfl)) (fun _ _ _ h => h) (Or.inl ⟨by rfl, ?_⟩) ?_ ?_; rotate_left; (intro w'; go_simp; with_reducible rfl); rotate_left; (simp only [Act.put, List.setIfInBounds_toArray, List.set_cons_zero, List.set_cons_succ, i64_w, i32_w]; rfl)
  refine one_ (i := 10) (N := none) #[true, true, true, true, true, true, true, true, true, true, true] rfl rfl (one_of HT_.out (by kernel_rfl)) (by decide) (fun K hK => ?_)
  obtain ⟨z0, z1, z2, h2⟩ := hHeld.b2
  have p0 := blk_cell h2 0
  have p1 := blk_cell h2 1
  have p2 := blk_cell h2 2
  have f0 := blk_frozen h2 0
  have f1 := blk_frozen h2 1
  have f2 := blk_frozen h2 2
  refine skip_ (w1 := ?_) (by rfl) rfl ?_ ?_
  rotate_left
  · go_simp
    rfl
  clear p0 p1 p2 f0 f1 f2
  refine hK.out _ _ hHeld.set2 (fun hHeld => ?_)
  clear hK K
  have h1'' := blk_far3 (g := w.heap.size + 1 + 1) (u0 := b.v0) (u1 := b.v1) (u2 := b.v2) h1' (by omega)
  have h2'' := blk_set3 (u0 := b.v0) (u1 := b.v1) (u2 := b.v2) h2
  clear h1' h2
  refine done_ (done_of HT_.out (by kernel_rfl)) ?_
  go_wp2
  refine bodyPost_ret (results_list (rs := [.cell 4 26, .tmp 5, .cell 6 26]) rfl (by simp) (.cell (w.heap.size + 1) 26 #[a.v0, a.v1, a.v2] (0, 0) _ rfl h1'' Try.underlying26 rfl (by kernel_rfl) (.tmp (.cell (w.heap.size + 1 + 1) 26 #[b.v0, b.v1, b.v2] (0, 0) _ rfl h2'' Try.underlying26 rfl (by kernel_rfl) .nil)))) rfl ?_
  exact ⟨a, b, rfl, hHeld.oa, hHeld.ob, HA.out, HBB.out, hHeld.bel⟩
end Go.Proofs.Ytejempihaknplaa.G
