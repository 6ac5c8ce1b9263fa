/- package node: Join by hand. -/
import Derived.Test.YtejempihaknplaaHRef
import Derived.Test.YtejempihaknplaaHConcat
namespace Go.Proofs.Ytejempihaknplaa.G
open Go.RowKit Go.Proofs.YtejempihaknplaaW.PrintWords Go.Proofs.YtejempihaknplaaW.PrintLast Go.Proofs.YtejempihaknplaaW.PrintMore
set_option linter.unusedVariables false
set_option linter.unusedSimpArgs false

theorem none_own (w : World) (b : Nat) : Nd.none_.Own w b := ⟨Kd.R_nil _ _ _ _ _, Kd.R_nil _ _ _ _ _, Kd.R_nil _ _ _ _ _⟩
/-- What two nodes and a key make. -/
def joinL (x y : Nd) (key : ByteArray) : List S39 × List ByteArray × List Int := if x.kd.isEmpty then (x.ps ++ y.ps, [], []) else ([], x.ks ++ key :: y.ks, x.kd ++ y.kd)
def joinR (x y : Nd) (key : ByteArray) : List S39 × List ByteArray × List Int × Int :=
  if x.right = true ∧ y.right = true ∧ x.kd.isEmpty = y.kd.isEmpty ∧ rightB (joinL x y key).1 (joinL x y key).2.1 (joinL x y key).2.2 = true then ((joinL x y key).1, (joinL x y key).2.1, (joinL x y key).2.2, 0) else ([], [], [], 60)
def JoinIs (x y z : Nd) (key : ByteArray) (err : Int) : Prop := (z.ps, z.ks, z.kd, err) = joinR x y key
/-- What stands while two nodes are joined. -/
structure NjI (w : World) (x y : Nd) (W : World) : Prop where
  b0 : W.heap[w.heap.size]? = some (.cells #[x.v0, x.v1, x.v2] 26 (0, 0))
  b1 : W.heap[w.heap.size + 1]? = some (.cells #[y.v0, y.v1, y.v2] 26 (0, 0))
  b2 : W.heap[w.heap.size + 1 + 1]? = some (.cells #[.slice none 0 0, .slice none 0 0, .slice none 0 0] 26 (0, 0))
  bel : Below w.heap.size w W
  le : w.heap.size + 3 ≤ W.heap.size
theorem NjI.below {w W W' : World} {x y : Nd} (h : NjI w x y W) (hb : Below W.heap.size W W') : NjI w x y W' :=
  ⟨blk_below h.b0 hb, blk_below h.b1 hb, blk_below h.b2 hb, h.bel.trans (hb.mono h.bel.size), Nat.le_trans h.le hb.size⟩
theorem nji_new (w : World) (x y : Nd) : NjI w x y (((w.alloc (.cells #[x.v0, x.v1, x.v2] 26)).alloc (.cells #[y.v0, y.v1, y.v2] 26)).alloc (.cells #[.slice none 0 0, .slice none 0 0, .slice none 0 0] 26)) := by
  have k1 := blk_new (w.alloc (.cells #[x.v0, x.v1, x.v2] 26)) (.cells #[y.v0, y.v1, y.v2] 26)
  have k2 := blk_new ((w.alloc (.cells #[x.v0, x.v1, x.v2] 26)).alloc (.cells #[y.v0, y.v1, y.v2] 26)) (.cells #[.slice none 0 0, .slice none 0 0, .slice none 0 0] 26)
  simp only [World.size_alloc] at k1 k2
  exact ⟨blk_alloc (blk_alloc (blk_new w _) _) _, blk_alloc k1 _, k2, (((Below.refl w.heap.size w).alloc (Nat.le_refl _) _).alloc (by simp) _).alloc (by simp; omega) _, by simp⟩
/-- The same with what they make, so far, in a block of its own. -/
structure NjJ (w : World) (x y z : Nd) (g : Nat) (W : World) : Prop where
  i : NjI w x y W
  b8 : W.heap[g]? = some (.cells #[z.v0, z.v1, z.v2] 26 (0, 0))
  oz : z.Own W w.heap.size
  le8 : w.heap.size + 3 ≤ g
theorem NjJ.below {w W W' : World} {x y z : Nd} {g : Nat} (h : NjJ w x y z g W) (hb : Below W.heap.size W W') : NjJ w x y z g W' :=
  ⟨h.i.below hb, blk_below h.b8 hb, h.oz.below hb, h.le8⟩
theorem NjJ.below_drew {w W : World} {x y z : Nd} {g : Nat} (h : NjJ w x y z g W) : NjJ w x y z g W.drew := h.below (Below.refl _ _).drew
theorem NjJ.set {w W : World} {x y z z' : Nd} {g : Nat} (h : NjJ w x y z g W) (o : z'.Own W w.heap.size) : NjJ w x y z' g (((W.setCell ⟨g, 0, none⟩ z'.v0).setCell ⟨g, 1, none⟩ z'.v1).setCell ⟨g, 2, none⟩ z'.v2) := by
  have := h.le8
  exact ⟨⟨blk_far3 h.i.b0 (by omega), blk_far3 h.i.b1 (by omega), blk_far3 h.i.b2 (by omega), below_set3 h.i.bel (by omega), by rw [show ∀ (W : World) (u0 u1 u2 : Value), (((W.setCell ⟨g, 0, none⟩ u0).setCell ⟨g, 1, none⟩ u1).setCell ⟨g, 2, none⟩ u2).heap.size = W.heap.size from fun W u0 u1 u2 => by simp]; exact h.i.le⟩, blk_set3 h.b8, o.set3 h.b8, h.le8⟩
theorem njj_last {w W : World} {x y z : Nd} {g : Nat} {key : ByteArray} (h : NjJ w x y z g W) (A7 : Option Addr) (c7 n7 : Nat) (A8 : Option Addr) (c8 n8 : Nat) (h1 : n7 = (x.ks ++ key :: y.ks).length) (h2 : n8 = (x.kd ++ y.kd).length) (r1 : Kd.R Kd.string 9 W w.heap.size (fun _ => True) (.slice A7 n7 c7) (x.ks ++ key :: y.ks)) (r2 : Kd.R (Kd.int .u32) 65 W w.heap.size (fun _ => True) (.slice A8 n8 c8) (x.kd ++ y.kd)) :
    NjJ w x y { Nd.none_ with A1 := A7, c1 := c7, ks := x.ks ++ key :: y.ks, A2 := A8, c2 := c8, kd := x.kd ++ y.kd } g (((W.setCell ⟨g, 0, none⟩ (.slice none 0 0)).setCell ⟨g, 1, none⟩ (.slice A7 n7 c7)).setCell ⟨g, 2, none⟩ (.slice A8 n8 c8)) := by
  subst h1 h2
  exact h.set (z' := { Nd.none_ with A1 := A7, c1 := c7, ks := x.ks ++ key :: y.ks, A2 := A8, c2 := c8, kd := x.kd ++ y.kd }) ⟨Kd.R_nil _ _ _ _ _, r1, r2⟩
theorem smallB_mk {ps : List S39} {ks : List ByteArray} {kd : List Int} (h1 : ps.length ≤ 100000) (h2 : ks.length ≤ 100000) (h3 : kd.length ≤ 100000) : smallB ps ks kd = true := by
  unfold smallB
  rw [decide_eq_true h1, decide_eq_true h2, decide_eq_true h3]
  rfl
theorem right_sizes {x : Nd} (h : x.right = true) : x.ps.length ≤ 255 ∧ x.ks.length ≤ 255 ∧ x.kd.length ≤ 255 ∧ (x.kd.length = 0 → x.ks = []) ∧ (0 < x.kd.length → x.ps = [] ∧ x.ks.length + 1 = x.kd.length) := by
  rcases right_or (show rightB x.ps x.ks x.kd = true from h) with h | h
  · obtain ⟨h1, h2, h3, _⟩ := leaf_facts h
    rw [h1, h2]
    simp [h3]
  · obtain ⟨h1, h2, h3, h4, _⟩ := branch_facts h
    rw [h1]
    refine ⟨by simp, by omega, h3, fun h0 => by omega, fun _ => ⟨rfl, h4⟩⟩
theorem isEmpty_len {α : Type} (l : List α) : l.isEmpty = decide (l.length = 0) := by cases l <;> rfl
theorem flat2 {α : Type} (a b : Option Addr × Nat × List α) : flat [a, b] = a.2.2 ++ b.2.2 := by simp [flat]
theorem flat3 {α : Type} (a b c : Option Addr × Nat × List α) : flat [a, b, c] = a.2.2 ++ (b.2.2 ++ c.2.2) := by simp [flat]
theorem rows2 {α : Type} {d : Kd α} {w : World} {g t : Nat} {a b : Option Addr × Nat × List α} (h : w.heap[g]? = some (.cells #[.slice a.1 a.2.2.length a.2.1, .slice b.1 b.2.2.length b.2.1] t (0, 0))) (ha : a.2.2.length ≤ a.2.1) (hb : b.2.2.length ≤ b.2.1) (ca : Kd.C d w a.1 a.2.2.length a.2.2) (cb : Kd.C d w b.1 b.2.2.length b.2.2) : RowsAt d w g [a, b] := by
  intro i x hi
  match i, hi with
  | 0, hi => cases hi; exact ⟨blk_cell h 0, ha, ca⟩
  | 1, hi => cases hi; exact ⟨blk_cell h 1, hb, cb⟩
theorem rows3 {α : Type} {d : Kd α} {w : World} {g t : Nat} {a b c : Option Addr × Nat × List α} (h : w.heap[g]? = some (.cells #[.slice a.1 a.2.2.length a.2.1, .slice b.1 b.2.2.length b.2.1, .slice c.1 c.2.2.length c.2.1] t (0, 0))) (ha : a.2.2.length ≤ a.2.1) (hb : b.2.2.length ≤ b.2.1) (hc : c.2.2.length ≤ c.2.1) (ca : Kd.C d w a.1 a.2.2.length a.2.2) (cb : Kd.C d w b.1 b.2.2.length b.2.2) (cc : Kd.C d w c.1 c.2.2.length c.2.2) : RowsAt d w g [a, b, c] := by
  intro i x hi
  match i, hi with
  | 0, hi => cases hi; exact ⟨blk_cell h 0, ha, ca⟩
  | 1, hi => cases hi; exact ⟨blk_cell h 1, hb, cb⟩
  | 2, hi => cases hi; exact ⟨blk_cell h 2, hc, cc⟩
theorem concat2_Pair (x y : Nd) (w : World) (g t : Nat) (hx : x.At w) (hy : y.At w) (h : w.heap[g]? = some (.cells #[x.v0, y.v0] t (0, 0))) (hl : x.ps.length + y.ps.length ≤ 300000) :
    Calls Try.prog 53 #[.slice (some ⟨g, 0, none⟩) 2 2] w fun e w' => ∃ A c n, e = .returned (.slice A n c) ∧ n = (x.ps ++ y.ps).length ∧ Kd.R k39 39 w' w.heap.size (fun _ => True) (.slice A n c) (x.ps ++ y.ps) ∧ Below w.heap.size w w' := by
  refine (concat_Pair [(x.A0, x.c0, x.ps), (y.A0, y.c0, y.ps)] g 2 2 w rfl (by omega) (rows2 h hx.pc hy.pc hx.p hy.p) (by rw [flat2, List.length_append]; exact hl)).mono ?_
  rintro e w' ⟨v, rfl, hR, hb⟩
  rw [flat2] at hR
  obtain ⟨A, c, rfl, _, _⟩ := Kd.R_reads hR
  exact ⟨A, c, _, rfl, rfl, hR, hb⟩
theorem concat2_Num (x y : Nd) (w : World) (g t : Nat) (hx : x.At w) (hy : y.At w) (h : w.heap[g]? = some (.cells #[x.v2, y.v2] t (0, 0))) (hl : x.kd.length + y.kd.length ≤ 300000) :
    Calls Try.prog 55 #[.slice (some ⟨g, 0, none⟩) 2 2] w fun e w' => ∃ A c n, e = .returned (.slice A n c) ∧ n = (x.kd ++ y.kd).length ∧ Kd.R (Kd.int .u32) 65 w' w.heap.size (fun _ => True) (.slice A n c) (x.kd ++ y.kd) ∧ Below w.heap.size w w' := by
  refine (concat_Num [(x.A2, x.c2, x.kd), (y.A2, y.c2, y.kd)] g 2 2 w rfl (by omega) (rows2 h hx.dc hy.dc hx.d hy.d) (by rw [flat2, List.length_append]; exact hl)).mono ?_
  rintro e w' ⟨v, rfl, hR, hb⟩
  rw [flat2] at hR
  obtain ⟨A, c, rfl, _, _⟩ := Kd.R_reads hR
  exact ⟨A, c, _, rfl, rfl, hR, hb⟩
theorem key_C (w : World) (g t : Nat) (key : ByteArray) (h : w.heap[g]? = some (.cells #[.string key] t (0, 0))) : Kd.C Kd.string w (some ⟨g, 0, none⟩) 1 [key] := by
  refine ⟨rfl, by omega, fun _ => ⟨_, rfl, fun j p hp => ?_⟩⟩
  match j, hp with
  | 0, hp =>
    cases hp
    refine ⟨[.string key], rfl, rfl, fun i u hu => ?_⟩
    match i, hu with
    | 0, hu =>
      cases hu
      exact blk_cell h 0
theorem concat3_Text (x y : Nd) (key : ByteArray) (w : World) (g k t t2 : Nat) (hx : x.At w) (hy : y.At w) (hk : w.heap[k]? = some (.cells #[.string key] t2 (0, 0))) (h : w.heap[g]? = some (.cells #[x.v1, .slice (some ⟨k, 0, none⟩) 1 1, y.v1] t (0, 0))) (hl : x.ks.length + y.ks.length ≤ 200000) :
    Calls Try.prog 54 #[.slice (some ⟨g, 0, none⟩) 3 3] w fun e w' => ∃ A c n, e = .returned (.slice A n c) ∧ n = (x.ks ++ key :: y.ks).length ∧ Kd.R Kd.string 9 w' w.heap.size (fun _ => True) (.slice A n c) (x.ks ++ key :: y.ks) ∧ Below w.heap.size w w' := by
  refine (concat_Text [(x.A1, x.c1, x.ks), (some ⟨k, 0, none⟩, 1, [key]), (y.A1, y.c1, y.ks)] g 3 3 w rfl (by omega) (rows3 h hx.kc (Nat.le_refl _) hy.kc hx.k (key_C w k t2 key hk) hy.k) (by rw [flat3]; simp; omega)).mono ?_
  rintro e w' ⟨v, rfl, hR, hb⟩
  rw [flat3] at hR
  obtain ⟨A, c, rfl, _, _⟩ := Kd.R_reads hR
  exact ⟨A, c, _, rfl, rfl, hR, hb⟩
def nJoin.T5 : Bool × List (List Nat × List Nat) := (true, [([], []), ([0], [0]), ([], []), ([2], [2]), ([], []), ([4], [4]), ([1, 3, 5], [1, 3, 5]), ([6], [6]), ([], []), ([8], [8]), ([], []), ([10], [10]), ([9, 11], [9, 11]), ([12, 7], [12]), ([7, 13], [7, 13]), ([14, 13, 0, 1, 2, 3, 4, 5, 6, 7, 8, 9, 10, 11, 12, 13, 14], [14])])
def nJoin.B5 : List Nat := [0, 1, 0, 4, 0, 16, 63, 127, 0, 256, 0, 1024, 3840, 8191, 16383, 32767]
theorem nJoin.tab5 : rtab .any (opsOf Try.f29 5) = nJoin.T5 := by kernel_rfl
theorem nJoin.bits5 : waitsOk nJoin.T5.2 nJoin.B5 = true := by kernel_rfl

set_option maxRecDepth 100000 in
set_option maxHeartbeats 8000000 in
theorem njoin_any (x y : Nd) (key : ByteArray) (w : World) (hx : x.At w) (hy : y.At w) (sx : x.small) (sy : y.small) :
    Calls Try.prog 29 #[.agg #[x.v0, x.v1, x.v2], .string key, .agg #[y.v0, y.v1, y.v2]] w fun e w' => ∃ (z : Nd) (err : Int), e = .returned (.tuple #[.agg #[z.v0, z.v1, z.v2], .int .i64 err]) ∧ z.Own w' w.heap.size ∧ JoinIs x y z key err ∧ Below w.heap.size w w' := by
  have HX := Aside0.mk (fun W (hb : Below w.heap.size w W) => nright_any x W (hx.below hb) sx)
  have HY := Aside0.mk (fun W (hb : Below w.heap.size w W) => nright_any y W (hy.below hb) sy)
  have HA := Aside0.mk (And.intro hx hy)
  obtain ⟨nx, hnx⟩ : ∃ n, x.kd.length = n := ⟨_, rfl⟩
  obtain ⟨ny, hny⟩ : ∃ n, y.kd.length = n := ⟨_, rfl⟩
  have HN := Aside0.mk (And.intro hnx hny)
  have hcase : x.right = false ∨ (x.right = true ∧ y.right = false) ∨ (x.right = true ∧ y.right = true ∧ nx = 0 ∧ 0 < ny) ∨ (x.right = true ∧ y.right = true ∧ 0 < nx ∧ ny = 0) ∨ (x.right = true ∧ y.right = true ∧ ((nx = 0 ∧ ny = 0) ∨ (0 < nx ∧ 0 < ny))) := by
    cases x.right <;> cases y.right <;> simp <;> omega
  clear hx hy sx sy hnx hny
  go_enter Try.func29, Try.ntmps29
  go_wp2_with fail
  obtain ⟨W1, hW1⟩ : ∃ W1, ((w.alloc (.cells #[x.v0, x.v1, x.v2] 26)).alloc (.cells #[y.v0, y.v1, y.v2] 26)).alloc (.cells #[.slice none 0 0, .slice none 0 0, .slice none 0 0] 26) = W1 := ⟨_, rfl⟩
  have HI1 : Aside0 (NjI w x y W1) := Aside0.mk (by rw [← hW1]; exact nji_new w x y)
  rw [hW1]
  clear hW1
  refine (HX.out _ HI1.out.bel).mono ?_
  rintro e w3 ⟨rfl, hb3⟩
  have HI := Aside0.mk (HI1.out.below hb3)
  clear HI1 hb3 HX
  rcases hcase with hr | ⟨hr, hr2⟩ | ⟨hr, hr2, h0, h1⟩ | ⟨hr, hr2, h0, h1⟩ | ⟨hr, hr2, hnn⟩
  case inl =>
    have HNO : Aside0 (¬ (x.right = true ∧ y.right = true ∧ x.kd.isEmpty = y.kd.isEmpty ∧ rightB (joinL x y key).1 (joinL x y key).2.1 (joinL x y key).2.2 = true)) := Aside0.mk (by rw [hr]; simp)
    rw [hr]
    clear hr
    have p0 : w3.cell? ⟨w.heap.size + 1 + 1, 0, none⟩ = some (.slice none 0 0) := blk_cell HI.out.b2 0
    have f0 : w3.frozen? ⟨w.heap.size + 1 + 1, 0, none⟩ = false := blk_frozen HI.out.b2 0
    have p1 : w3.cell? ⟨w.heap.size + 1 + 1, 1, none⟩ = some (.slice none 0 0) := blk_cell HI.out.b2 1
    have f1 : w3.frozen? ⟨w.heap.size + 1 + 1, 1, none⟩ = false := blk_frozen HI.out.b2 1
    have p2 : w3.cell? ⟨w.heap.size + 1 + 1, 2, none⟩ = some (.slice none 0 0) := blk_cell HI.out.b2 2
    have f2 : w3.frozen? ⟨w.heap.size + 1 + 1, 2, none⟩ = false := blk_frozen HI.out.b2 2
    go_wp2_with fail
    refine bodyPost_ret (results_list (rs := [.cell 6 26, .tmp 7]) rfl (by simp) (.cell (w.heap.size + 1 + 1) 26 #[.slice none 0 0, .slice none 0 0, .slice none 0 0] (0, 0) _ rfl (blk_set3 HI.out.b2) Try.underlying26 rfl (by kernel_rfl) (.tmp .nil))) rfl ?_
    refine ⟨Nd.none_, 60, rfl, none_own _ _, ?_, below_set3 HI.out.bel (by omega)⟩
    unfold JoinIs joinR
    rw [if_neg HNO.out]
    rfl
  case' inr.inl =>
    have HNO : Aside0 (¬ (x.right = true ∧ y.right = true ∧ x.kd.isEmpty = y.kd.isEmpty ∧ rightB (joinL x y key).1 (joinL x y key).2.1 (joinL x y key).2.2 = true)) := Aside0.mk (by rw [hr2]; simp)
  case' inr.inr.inl =>
    have HNO : Aside0 (¬ (x.right = true ∧ y.right = true ∧ x.kd.isEmpty = y.kd.isEmpty ∧ rightB (joinL x y key).1 (joinL x y key).2.1 (joinL x y key).2.2 = true)) := Aside0.mk (fun h => by
      have h3 := h.2.2.1
      rw [isEmpty_len, isEmpty_len, HN.out.1, HN.out.2, decide_eq_true h0, decide_eq_false (by omega)] at h3
      cases h3)
    have d1 : ((nx : Int) == 0) = true := by rw [h0]; rfl
    have d2 : ((ny : Int) == 0) = false := by rw [beq_eq_false_iff_ne]; omega
  case' inr.inr.inr.inl =>
    have HNO : Aside0 (¬ (x.right = true ∧ y.right = true ∧ x.kd.isEmpty = y.kd.isEmpty ∧ rightB (joinL x y key).1 (joinL x y key).2.1 (joinL x y key).2.2 = true)) := Aside0.mk (fun h => by
      have h3 := h.2.2.1
      rw [isEmpty_len, isEmpty_len, HN.out.1, HN.out.2, decide_eq_true h1, decide_eq_false (by omega)] at h3
      cases h3)
    have d1 : ((nx : Int) == 0) = false := by rw [beq_eq_false_iff_ne]; omega
    have d2 : ((ny : Int) == 0) = true := by rw [h1]; rfl
  case' inr.inr.inr.inr => have HYES := Aside0.mk (And.intro hr hr2)
  all_goals
    rw [hr]
    have r0 : w3.cell? ⟨w.heap.size + 1, 0, none⟩ = some y.v0 := blk_cell HI.out.b1 0
    have r1 : w3.cell? ⟨w.heap.size + 1, 1, none⟩ = some y.v1 := blk_cell HI.out.b1 1
    have r2 : w3.cell? ⟨w.heap.size + 1, 2, none⟩ = some y.v2 := blk_cell HI.out.b1 2
    go_wp2_with fail
    refine (HY.out _ HI.out.bel).mono ?_
    rintro e w4 ⟨rfl, hb4⟩
    have HI4 := Aside0.mk (HI.out.below hb4)
    clear r0 r1 r2 hb4 HI HY
    have r2 : w4.cell? ⟨w.heap.size, 2, none⟩ = some (.slice x.A2 nx x.c2) := by rw [← HN.out.1]; exact blk_cell HI4.out.b0 2
    have r5 : w4.cell? ⟨w.heap.size + 1, 2, none⟩ = some (.slice y.A2 ny y.c2) := by rw [← HN.out.2]; exact blk_cell HI4.out.b1 2
    rw [hr2]
    clear hr hr2
  · have HS := Aside0.mk (And.intro (right_sizes HYES.out.1) (right_sizes HYES.out.2))
    have HC1 := Aside0.mk (fun W (hb : Below w.heap.size w W) g t (h : W.heap[g]? = some (.cells #[x.v0, y.v0] t (0, 0))) => concat2_Pair x y W g t (HA.out.1.below hb) (HA.out.2.below hb) h (by have h1 := HS.out.1.1; have h2 := HS.out.2.1; omega))
    have r0 : w4.cell? ⟨w.heap.size, 0, none⟩ = some x.v0 := blk_cell HI4.out.b0 0
    have r3 : w4.cell? ⟨w.heap.size + 1, 0, none⟩ = some y.v0 := blk_cell HI4.out.b1 0
    obtain ⟨bx, hx0, d1, d2⟩ : ∃ bx, (bx = decide (nx = 0)) ∧ ((nx : Int) == 0) = bx ∧ ((ny : Int) == 0) = bx := by
      rcases hnn with ⟨h0, h1⟩ | ⟨h0, h1⟩
      · exact ⟨true, by rw [h0]; rfl, by rw [h0]; rfl, by rw [h1]; rfl⟩
      · exact ⟨false, by rw [decide_eq_false (by omega)], by rw [beq_eq_false_iff_ne]; omega, by rw [beq_eq_false_iff_ne]; omega⟩
    have HNN := Aside0.mk hnn
    clear hnn hx0
    go_upto_region 4 with (go_at_call 53; refine (HC1.out _ (HI4.out.bel.alloc HI4.out.bel.size _) w4.heap.size _ (blk_new w4 _)).mono ?_; rintro e w5 ⟨A, c, n, rfl, hn, hR, hb5⟩; have H5 := Aside0.mk (And.intro hn (And.intro hR hb5)); clear hn hR hb5)
    obtain ⟨g, hg⟩ : ∃ n, w5.heap.size = n := ⟨_, rfl⟩
    obtain ⟨z, hz⟩ : ∃ z : Nd, z = { Nd.none_ with A0 := A, c0 := c, ps := x.ps ++ y.ps } := ⟨_, rfl⟩
    have hzv : z.v0 = .slice A n c := by rw [hz, H5.out.1]
    have hzw : z.v1 = .slice none 0 0 ∧ z.v2 = .slice none 0 0 := by rw [hz]; exact ⟨rfl, rfl⟩
    obtain ⟨W6, hW6⟩ : ∃ W6, w5.alloc (.cells #[.slice A n c, .slice none 0 0, .slice none 0 0] 26) = W6 := ⟨_, rfl⟩
    have H6 : Aside0 (NjJ w x y z g W6) := Aside0.mk (by
      obtain ⟨hn, hR, hb5⟩ := H5.out
      have hal := (Below.refl w5.heap.size w5).alloc (Nat.le_refl _) (.cells #[.slice A n c, .slice none 0 0, .slice none 0 0] 26)
      have hi := (HI4.out.below ((Below.refl w4.heap.size w4).alloc (Nat.le_refl _) _)).below hb5
      have hnw := blk_new w5 (.cells #[.slice A n c, .slice none 0 0, .slice none 0 0] 26)
      rw [← hW6, ← hg]
      refine ⟨hi.below hal, by rw [hzv, hzw.1, hzw.2]; exact hnw, ⟨by rw [hzv, hz]; exact Kd.R_below (Kd.R_lower hR (HI4.out.bel.alloc HI4.out.bel.size _).size) hal, ?_, ?_⟩, hi.le⟩
      · rw [hz]; exact Kd.R_nil _ _ _ _ _
      · rw [hz]; exact Kd.R_nil _ _ _ _ _)
    have HZ := Aside0.mk (And.intro hz (And.intro hzv hzw))
    rw [hW6, hg]
    clear H5 hW6 hg r0 r2 r3 r5 HC1 d1 d2 hz hzv hzw
    have r2 : W6.cell? ⟨w.heap.size, 2, none⟩ = some (.slice x.A2 nx x.c2) := by rw [← HN.out.1]; exact blk_cell H6.out.i.b0 2
    go_upto_if 39 with (fail)
    go_cut [7] (fun v7 wc => v7 = .int .i64 0 ∧ ∃ z' : Nd, Aside0 (NjJ w x y z' g wc ∧ (z'.ps, z'.ks, z'.kd) = joinL x y key))
    case first =>
      rcases HNN.out with ⟨h0, h1⟩ | ⟨h0, h1⟩
      · have n0 : ¬ (0 : Int) < (nx : Int) := by omega
        go_wp2
        go_meet
        case rel =>
          refine ⟨rfl, z, Aside0.mk ⟨H6.out, ?_⟩⟩
          unfold joinL
          rw [isEmpty_len, HN.out.1, decide_eq_true h0, HZ.out.1]
          rfl
      · have n0 : (0 : Int) < (nx : Int) := by omega
        go_upto_region 5 with (fail)
        refine start_ (n := 16) (S := fun W' => NjJ w x y z g W') (ds := [15]) #[false, false, false, false, false, false, false, false, false, false, false, false, false, false, false, false] (by kernel_rfl) rfl rfl H6.out.below_drew (fun hHeld => ?_)
        refine with_tabW nJoin.tab5 nJoin.bits5 (fun HT_ HW_ => ?_)
        generalize W6.drew = wd at hHeld ⊢
        refine pure_ (i := 0) (N := some 40) (v := ?_) (a' := ?_) #[true, false, false, false, false, false, false, false, false, false, false, false, false, false, false, false] rfl rfl (any_of HT_.out (by kernel_rfl)) (fun _ _ _ h => h) (Or.inl ⟨by rfl, ?_⟩) ?_ ?_; rotate_left; (intro w'; go_simp; with_reducible rfl); rotate_left; (simp only [Act.put, List.setIfInBounds_toArray, List.set_cons_zero, List.set_cons_succ, i64_w, i32_w]; rfl)
        refine take_ (i := 1) (N := some 41) (v := ?_) (a' := ?_) #[true, true, false, false, false, false, false, false, false, false, false, false, false, false, false, false] rfl rfl (take_ofW HT_.out HW_.out (by kernel_rfl)) (fun _ _ _ h => h) (Or.inl ⟨by rfl, ?_⟩) hHeld ?_ ?_; rotate_left; (intro w' hS; have q0 := blk_cell hS.i.b0 1; go_simp; with_reducible rfl); rotate_left; (simp only [Act.put, List.setIfInBounds_toArray, List.set_cons_zero, List.set_cons_succ, i64_w, i32_w]; rfl)
        refine pure_ (i := 2) (N := some 42) (v := ?_) (a' := ?_) #[true, true, true, false, false, false, false, false, false, false, false, false, false, false, false, false] rfl rfl (any_of HT_.out (by kernel_rfl)) (fun _ _ _ h => h) (Or.inl ⟨by rfl, ?_⟩) ?_ ?_; rotate_left; (intro w'; go_simp; with_reducible rfl); rotate_left; (simp only [Act.put, List.setIfInBounds_toArray, List.set_cons_zero, List.set_cons_succ, i64_w, i32_w]; rfl)
        refine pure_ (i := 4) (N := some 44) (v := ?_) (a' := ?_) #[true, true, true, false, true, false, false, false, false, false, false, false, false, false, false, false] rfl rfl (any_of HT_.out (by kernel_rfl)) (fun _ _ _ h => h) (Or.inl ⟨by rfl, ?_⟩) ?_ ?_; rotate_left; (intro w'; go_simp; with_reducible rfl); rotate_left; (simp only [Act.put, List.setIfInBounds_toArray, List.set_cons_zero, List.set_cons_succ, i64_w, i32_w]; rfl)
        refine take_ (i := 5) (N := some 45) (v := ?_) (a' := ?_) #[true, true, true, false, true, true, false, false, false, false, false, false, false, false, false, false] rfl rfl (take_ofW HT_.out HW_.out (by kernel_rfl)) (fun _ _ _ h => h) (Or.inl ⟨by rfl, ?_⟩) hHeld ?_ ?_; rotate_left; (intro w' hS; have q0 := blk_cell hS.i.b1 1; go_simp; with_reducible rfl); rotate_left; (simp only [Act.put, List.setIfInBounds_toArray, List.set_cons_zero, List.set_cons_succ, i64_w, i32_w]; rfl)
        refine pure_ (i := 8) (N := some 48) (v := ?_) (a' := ?_) #[true, true, true, false, true, true, false, false, true, false, false, false, false, false, false, false] rfl rfl (any_of HT_.out (by kernel_rfl)) (fun _ _ _ h => h) (Or.inl ⟨by rfl, ?_⟩) ?_ ?_; rotate_left; (intro w'; go_simp; with_reducible rfl); rotate_left; (simp only [Act.put, List.setIfInBounds_toArray, List.set_cons_zero, List.set_cons_succ, i64_w, i32_w]; rfl)
        refine take_ (i := 9) (N := some 49) (v := ?_) (a' := ?_) #[true, true, true, false, true, true, false, false, true, true, false, false, false, false, false, false] rfl rfl (take_ofW HT_.out HW_.out (by kernel_rfl)) (fun _ _ _ h => h) (Or.inl ⟨by rfl, ?_⟩) hHeld ?_ ?_; rotate_left; (intro w' hS; have q0 : w'.cell? ⟨w.heap.size, 2, none⟩ = some x.v2 := blk_cell hS.i.b0 2; go_simp; with_reducible rfl); rotate_left; (simp only [Act.put, List.setIfInBounds_toArray, List.set_cons_zero, List.set_cons_succ, i64_w, i32_w]; rfl)
        refine pure_ (i := 10) (N := some 50) (v := ?_) (a' := ?_) #[true, true, true, false, true, true, false, false, true, true, true, false, false, false, false, false] rfl rfl (any_of HT_.out (by kernel_rfl)) (fun _ _ _ h => h) (Or.inl ⟨by rfl, ?_⟩) ?_ ?_; rotate_left; (intro w'; go_simp; with_reducible rfl); rotate_left; (simp only [Act.put, List.setIfInBounds_toArray, List.set_cons_zero, List.set_cons_succ, i64_w, i32_w]; rfl)
        refine take_ (i := 11) (N := some 51) (v := ?_) (a' := ?_) #[true, true, true, false, true, true, false, false, true, true, true, true, false, false, false, false] rfl rfl (take_ofW HT_.out HW_.out (by kernel_rfl)) (fun _ _ _ h => h) (Or.inl ⟨by rfl, ?_⟩) hHeld ?_ ?_; rotate_left; (intro w' hS; have q0 : w'.cell? ⟨w.heap.size + 1, 2, none⟩ = some y.v2 := blk_cell hS.i.b1 2; go_simp; with_reducible rfl); rotate_left; (simp only [Act.put, List.setIfInBounds_toArray, List.set_cons_zero, List.set_cons_succ, i64_w, i32_w]; rfl)
        refine two_ (i := 3) (j := 12) (Ni := some 43) (Nj := some 52) #[true, true, true, true, true, true, false, false, true, true, true, true, false, false, false, false] #[true, true, true, false, true, true, false, false, true, true, true, true, true, false, false, false] rfl rfl rfl rfl (two_of HT_.out (by kernel_rfl)) (by decide) (by decide) (fun K hK => ?_) (fun K hK => ?_)
        · refine value_ (w1 := wd.alloc (.cells #[.string key] 9)) (v := .slice (some ⟨wd.heap.size, 0, none⟩) 1 1) (by rfl) rfl ?_ ?_
          · go_simp
          have hb := (Below.refl wd.heap.size wd).alloc (Nat.le_refl _) (.cells #[.string key] 9)
          have hN := blk_new wd (.cells #[.string key] 9)
          obtain ⟨k3, hk⟩ : ∃ n, wd.heap.size = n := ⟨_, rfl⟩
          obtain ⟨v3_9, hw⟩ : ∃ W, wd.alloc (.cells #[.string key] 9) = W := ⟨_, rfl⟩
          rw [hw] at hb hN ⊢
          rw [hk] at hN ⊢
          have hHeld' := hHeld.below hb
          have HK3 := Aside0.mk hN
          refine hK.out _ _ hHeld' (fun hHeld => ?_)
          clear hK K hHeld' hb hN hk hw
          refine norm_ (a' := ?_) ?_ ?_; rotate_left; (show Act.put _ (some 43) _ = _; simp only [Act.put, List.setIfInBounds_toArray, List.set_cons_zero, List.set_cons_succ, i64_w, i32_w]; rfl)
          refine two_ (i := 6) (j := 12) (Ni := some 46) (Nj := some 52) #[true, true, true, true, true, true, true, false, true, true, true, true, false, false, false, false] #[true, true, true, true, true, true, false, false, true, true, true, true, true, false, false, false] rfl rfl rfl rfl (two_of HT_.out (by kernel_rfl)) (by decide) (by decide) (fun K hK => ?_) (fun K hK => ?_)
          · refine value_ (w1 := v3_9.alloc (.cells #[x.v1, .slice (some ⟨k3, 0, none⟩) 1 1, y.v1] 23)) (v := .slice (some ⟨v3_9.heap.size, 0, none⟩) 3 3) (by rfl) rfl ?_ ?_
            · go_simp
            have hb := (Below.refl v3_9.heap.size v3_9).alloc (Nat.le_refl _) (.cells #[x.v1, .slice (some ⟨k3, 0, none⟩) 1 1, y.v1] 23)
            have hN := blk_new v3_9 (.cells #[x.v1, .slice (some ⟨k3, 0, none⟩) 1 1, y.v1] 23)
            obtain ⟨k6, hk⟩ : ∃ n, v3_9.heap.size = n := ⟨_, rfl⟩
            obtain ⟨v6_10, hw⟩ : ∃ W, v3_9.alloc (.cells #[x.v1, .slice (some ⟨k3, 0, none⟩) 1 1, y.v1] 23) = W := ⟨_, rfl⟩
            rw [hw] at hb hN ⊢
            rw [hk] at hN ⊢
            have HK3' := Aside0.mk (blk_below HK3.out hb)
            have hHeld' := hHeld.below hb
            have HK6 := Aside0.mk hN
            refine hK.out _ _ hHeld' (fun hHeld => ?_)
            clear hK K hHeld' hb hN hk hw
            clear HK3
            have HK3 := HK3'
            clear HK3'
            refine norm_ (a' := ?_) ?_ ?_; rotate_left; (show Act.put _ (some 46) _ = _; simp only [Act.put, List.setIfInBounds_toArray, List.set_cons_zero, List.set_cons_succ, i64_w, i32_w]; rfl)
            refine two_ (i := 7) (j := 12) (Ni := some 47) (Nj := some 52) #[true, true, true, true, true, true, true, true, true, true, true, true, false, false, false, false] #[true, true, true, true, true, true, true, false, true, true, true, true, true, false, false, false] rfl rfl rfl rfl (two_of HT_.out (by kernel_rfl)) (by decide) (by decide) (fun K hK => ?_) (fun K hK => ?_)
            · refine goes_ Try.func54 (by kernel_rfl) rfl #[.slice (some ⟨k6, 0, none⟩) 3 3] (by rfl) rfl rfl (by (try simp only [List.map_toArray, List.map_cons, List.map_nil]); first | done | rfl) ?_
              refine (concat3_Text x y key v6_10 k6 k3 _ _ (HA.out.1.below hHeld.i.bel) (HA.out.2.below hHeld.i.bel) HK3.out HK6.out (by have h1 := HS.out.1.2.1; have h2 := HS.out.2.2.1; omega)).mono ?_
              rintro e v7_11 ⟨A7, c7, n7, rfl, hn7, hR, hb⟩
              refine ⟨_, rfl, ?_⟩
              have HK3' := Aside0.mk (blk_below HK3.out hb)
              have HK6' := Aside0.mk (blk_below HK6.out hb)
              have HR7 := Aside0.mk (And.intro hn7 (Kd.R_lower hR hHeld.i.bel.size))
              refine hK.out _ _ (hHeld.below hb) (fun hHeld => ?_)
              clear hK K hb hR hn7
              clear HK3 HK6
              have HK3 := HK3'
              have HK6 := HK6'
              clear HK3' HK6'
              refine norm_ (a' := ?_) ?_ ?_; rotate_left; (show Act.put _ (some 47) _ = _; simp only [Act.put, List.setIfInBounds_toArray, List.set_cons_zero, List.set_cons_succ, i64_w, i32_w]; rfl)
              refine one_ (i := 12) (N := some 52) #[true, true, true, true, true, true, true, true, true, true, true, true, true, false, false, false] rfl rfl (one_of HT_.out (by kernel_rfl)) (by decide) (fun K hK => ?_)
              refine value_ (w1 := v7_11.alloc (.cells #[x.v2, y.v2] 24)) (v := .slice (some ⟨v7_11.heap.size, 0, none⟩) 2 2) (by rfl) rfl ?_ ?_
              · go_simp
              have hb := (Below.refl v7_11.heap.size v7_11).alloc (Nat.le_refl _) (.cells #[x.v2, y.v2] 24)
              have hN := blk_new v7_11 (.cells #[x.v2, y.v2] 24)
              obtain ⟨k12, hk⟩ : ∃ n, v7_11.heap.size = n := ⟨_, rfl⟩
              obtain ⟨v12_12, hw⟩ : ∃ W, v7_11.alloc (.cells #[x.v2, y.v2] 24) = W := ⟨_, rfl⟩
              rw [hw] at hb hN ⊢
              rw [hk] at hN ⊢
              have HK3' := Aside0.mk (blk_below HK3.out hb)
              have HK6' := Aside0.mk (blk_below HK6.out hb)
              have HR7' := Aside0.mk (And.intro HR7.out.1 (Kd.R_below HR7.out.2 hb))
              have hHeld' := hHeld.below hb
              have HK12 := Aside0.mk hN
              refine hK.out _ _ hHeld' (fun hHeld => ?_)
              clear hK K hHeld' hb hN hk hw
              clear HK3 HK6 HR7
              have HK3 := HK3'
              have HK6 := HK6'
              have HR7 := HR7'
              clear HK3' HK6' HR7'
              refine norm_ (a' := ?_) ?_ ?_; rotate_left; (show Act.put _ (some 52) _ = _; simp only [Act.put, List.setIfInBounds_toArray, List.set_cons_zero, List.set_cons_succ, i64_w, i32_w]; rfl)
              refine one_ (i := 13) (N := some 53) #[true, true, true, true, true, true, true, true, true, true, true, true, true, true, false, false] rfl rfl (one_of HT_.out (by kernel_rfl)) (by decide) (fun K hK => ?_)
              refine goes_ Try.func55 (by kernel_rfl) rfl #[.slice (some ⟨k12, 0, none⟩) 2 2] (by rfl) rfl rfl (by (try simp only [List.map_toArray, List.map_cons, List.map_nil]); first | done | rfl) ?_
              refine (concat2_Num x y v12_12 k12 _ (HA.out.1.below hHeld.i.bel) (HA.out.2.below hHeld.i.bel) HK12.out (by have h1 := HS.out.1.2.2.1; have h2 := HS.out.2.2.2.1; omega)).mono ?_
              rintro e v13_13 ⟨A8, c8, n8, rfl, hn8, hR, hb⟩
              refine ⟨_, rfl, ?_⟩
              have HK3' := Aside0.mk (blk_below HK3.out hb)
              have HK6' := Aside0.mk (blk_below HK6.out hb)
              have HK12' := Aside0.mk (blk_below HK12.out hb)
              have HR7' := Aside0.mk (And.intro HR7.out.1 (Kd.R_below HR7.out.2 hb))
              have HR13 := Aside0.mk (And.intro hn8 (Kd.R_lower hR hHeld.i.bel.size))
              refine hK.out _ _ (hHeld.below hb) (fun hHeld => ?_)
              clear hK K hb hR hn8
              clear HK3 HK6 HK12 HR7
              have HK3 := HK3'
              have HK6 := HK6'
              have HK12 := HK12'
              have HR7 := HR7'
              clear HK3' HK6' HK12' HR7'
              refine norm_ (a' := ?_) ?_ ?_; rotate_left; (show Act.put _ (some 53) _ = _; simp only [Act.put, List.setIfInBounds_toArray, List.set_cons_zero, List.set_cons_succ, i64_w, i32_w]; rfl)
              refine pure_ (i := 14) (N := some 54) (v := ?_) (a' := ?_) #[true, true, true, true, true, true, true, true, true, true, true, true, true, true, true, false] rfl rfl (any_of HT_.out (by kernel_rfl)) (fun _ _ _ h => h) (Or.inl ⟨by rfl, ?_⟩) ?_ ?_; rotate_left; (intro w'; go_simp; with_reducible rfl); rotate_left; (simp only [Act.put, List.setIfInBounds_toArray, List.set_cons_zero, List.set_cons_succ, i64_w, i32_w]; rfl)
              refine last_ (i := 15) (N := none) #[true, true, true, true, true, true, true, true, true, true, true, true, true, true, true, true] rfl rfl (one_of HT_.out (by kernel_rfl)) (by decide) (fun K hK => ?_)
              have p0 : v13_13.cell? ⟨g, 0, none⟩ = some z.v0 := blk_cell hHeld.b8 0
              have f0 : v13_13.frozen? ⟨g, 0, none⟩ = false := blk_frozen hHeld.b8 0
              have p1 : v13_13.cell? ⟨g, 1, none⟩ = some z.v1 := blk_cell hHeld.b8 1
              have f1 : v13_13.frozen? ⟨g, 1, none⟩ = false := blk_frozen hHeld.b8 1
              have p2 : v13_13.cell? ⟨g, 2, none⟩ = some z.v2 := blk_cell hHeld.b8 2
              have f2 : v13_13.frozen? ⟨g, 2, none⟩ = false := blk_frozen hHeld.b8 2
              refine skip_ (w1 := ?_) (by rfl) rfl ?_ ?_
              rotate_left
              · go_simp
                rfl
              clear p0 p1 p2 f0 f1 f2
              have HF := njj_last hHeld A7 c7 n7 A8 c8 n8 HR7.out.1 HR13.out.1 HR7.out.2 HR13.out.2
              refine hK.out _ _ ?_
              clear hK K
              refine done_ (done_of HT_.out (by kernel_rfl)) ?_
              go_wp2
              go_meet
              case rel =>
                refine ⟨rfl, _, Aside0.mk ⟨HF, ?_⟩⟩
                unfold joinL
                rw [isEmpty_len, HN.out.1, decide_eq_false (by omega)]
                rfl
            · refine value_ (w1 := v6_10.alloc (.cells #[x.v2, y.v2] 24)) (v := .slice (some ⟨v6_10.heap.size, 0, none⟩) 2 2) (by rfl) rfl ?_ ?_
              · go_simp
              have hb := (Below.refl v6_10.heap.size v6_10).alloc (Nat.le_refl _) (.cells #[x.v2, y.v2] 24)
              have hN := blk_new v6_10 (.cells #[x.v2, y.v2] 24)
              obtain ⟨k12, hk⟩ : ∃ n, v6_10.heap.size = n := ⟨_, rfl⟩
              obtain ⟨v12_11, hw⟩ : ∃ W, v6_10.alloc (.cells #[x.v2, y.v2] 24) = W := ⟨_, rfl⟩
              rw [hw] at hb hN ⊢
              rw [hk] at hN ⊢
              have HK3' := Aside0.mk (blk_below HK3.out hb)
              have HK6' := Aside0.mk (blk_below HK6.out hb)
              have hHeld' := hHeld.below hb
              have HK12 := Aside0.mk hN
              refine hK.out _ _ hHeld' (fun hHeld => ?_)
              clear hK K hHeld' hb hN hk hw
              clear HK3 HK6
              have HK3 := HK3'
              have HK6 := HK6'
              clear HK3' HK6'
              refine norm_ (a' := ?_) ?_ ?_; rotate_left; (show Act.put _ (some 52) _ = _; simp only [Act.put, List.setIfInBounds_toArray, List.set_cons_zero, List.set_cons_succ, i64_w, i32_w]; rfl)
              refine one_ (i := 7) (N := some 47) #[true, true, true, true, true, true, true, true, true, true, true, true, true, false, false, false] rfl rfl (one_of HT_.out (by kernel_rfl)) (by decide) (fun K hK => ?_)
              refine goes_ Try.func54 (by kernel_rfl) rfl #[.slice (some ⟨k6, 0, none⟩) 3 3] (by rfl) rfl rfl (by (try simp only [List.map_toArray, List.map_cons, List.map_nil]); first | done | rfl) ?_
              refine (concat3_Text x y key v12_11 k6 k3 _ _ (HA.out.1.below hHeld.i.bel) (HA.out.2.below hHeld.i.bel) HK3.out HK6.out (by have h1 := HS.out.1.2.1; have h2 := HS.out.2.2.1; omega)).mono ?_
              rintro e v7_12 ⟨A7, c7, n7, rfl, hn7, hR, hb⟩
              refine ⟨_, rfl, ?_⟩
              have HK3' := Aside0.mk (blk_below HK3.out hb)
              have HK6' := Aside0.mk (blk_below HK6.out hb)
              have HK12' := Aside0.mk (blk_below HK12.out hb)
              have HR7 := Aside0.mk (And.intro hn7 (Kd.R_lower hR hHeld.i.bel.size))
              refine hK.out _ _ (hHeld.below hb) (fun hHeld => ?_)
              clear hK K hb hR hn7
              clear HK3 HK6 HK12
              have HK3 := HK3'
              have HK6 := HK6'
              have HK12 := HK12'
              clear HK3' HK6' HK12'
              refine norm_ (a' := ?_) ?_ ?_; rotate_left; (show Act.put _ (some 47) _ = _; simp only [Act.put, List.setIfInBounds_toArray, List.set_cons_zero, List.set_cons_succ, i64_w, i32_w]; rfl)
              refine one_ (i := 13) (N := some 53) #[true, true, true, true, true, true, true, true, true, true, true, true, true, true, false, false] rfl rfl (one_of HT_.out (by kernel_rfl)) (by decide) (fun K hK => ?_)
              refine goes_ Try.func55 (by kernel_rfl) rfl #[.slice (some ⟨k12, 0, none⟩) 2 2] (by rfl) rfl rfl (by (try simp only [List.map_toArray, List.map_cons, List.map_nil]); first | done | rfl) ?_
              refine (concat2_Num x y v7_12 k12 _ (HA.out.1.below hHeld.i.bel) (HA.out.2.below hHeld.i.bel) HK12.out (by have h1 := HS.out.1.2.2.1; have h2 := HS.out.2.2.2.1; omega)).mono ?_
              rintro e v13_13 ⟨A8, c8, n8, rfl, hn8, hR, hb⟩
              refine ⟨_, rfl, ?_⟩
              have HK3' := Aside0.mk (blk_below HK3.out hb)
              have HK6' := Aside0.mk (blk_below HK6.out hb)
              have HK12' := Aside0.mk (blk_below HK12.out hb)
              have HR7' := Aside0.mk (And.intro HR7.out.1 (Kd.R_below HR7.out.2 hb))
              have HR13 := Aside0.mk (And.intro hn8 (Kd.R_lower hR hHeld.i.bel.size))
              refine hK.out _ _ (hHeld.below hb) (fun hHeld => ?_)
              clear hK K hb hR hn8
              clear HK3 HK6 HK12 HR7
              have HK3 := HK3'
              have HK6 := HK6'
              have HK12 := HK12'
              have HR7 := HR7'
              clear HK3' HK6' HK12' HR7'
              refine norm_ (a' := ?_) ?_ ?_; rotate_left; (show Act.put _ (some 53) _ = _; simp only [Act.put, List.setIfInBounds_toArray, List.set_cons_zero, List.set_cons_succ, i64_w, i32_w]; rfl)
              refine pure_ (i := 14) (N := some 54) (v := ?_) (a' := ?_) #[true, true, true, true, true, true, true, true, true, true, true, true, true, true, true, false] rfl rfl (any_of HT_.out (by kernel_rfl)) (fun _ _ _ h => h) (Or.inl ⟨by rfl, ?_⟩) ?_ ?_; rotate_left; (intro w'; go_simp; with_reducible rfl); rotate_left; (simp only [Act.put, List.setIfInBounds_toArray, List.set_cons_zero, List.set_cons_succ, i64_w, i32_w]; rfl)
              refine last_ (i := 15) (N := none) #[true, true, true, true, true, true, true, true, true, true, true, true, true, true, true, true] rfl rfl (one_of HT_.out (by kernel_rfl)) (by decide) (fun K hK => ?_)
              have p0 : v13_13.cell? ⟨g, 0, none⟩ = some z.v0 := blk_cell hHeld.b8 0
              have f0 : v13_13.frozen? ⟨g, 0, none⟩ = false := blk_frozen hHeld.b8 0
              have p1 : v13_13.cell? ⟨g, 1, none⟩ = some z.v1 := blk_cell hHeld.b8 1
              have f1 : v13_13.frozen? ⟨g, 1, none⟩ = false := blk_frozen hHeld.b8 1
              have p2 : v13_13.cell? ⟨g, 2, none⟩ = some z.v2 := blk_cell hHeld.b8 2
              have f2 : v13_13.frozen? ⟨g, 2, none⟩ = false := blk_frozen hHeld.b8 2
              refine skip_ (w1 := ?_) (by rfl) rfl ?_ ?_
              rotate_left
              · go_simp
                rfl
              clear p0 p1 p2 f0 f1 f2
              have HF := njj_last hHeld A7 c7 n7 A8 c8 n8 HR7.out.1 HR13.out.1 HR7.out.2 HR13.out.2
              refine hK.out _ _ ?_
              clear hK K
              refine done_ (done_of HT_.out (by kernel_rfl)) ?_
              go_wp2
              go_meet
              case rel =>
                refine ⟨rfl, _, Aside0.mk ⟨HF, ?_⟩⟩
                unfold joinL
                rw [isEmpty_len, HN.out.1, decide_eq_false (by omega)]
                rfl
          · refine value_ (w1 := v3_9.alloc (.cells #[x.v2, y.v2] 24)) (v := .slice (some ⟨v3_9.heap.size, 0, none⟩) 2 2) (by rfl) rfl ?_ ?_
            · go_simp
            have hb := (Below.refl v3_9.heap.size v3_9).alloc (Nat.le_refl _) (.cells #[x.v2, y.v2] 24)
            have hN := blk_new v3_9 (.cells #[x.v2, y.v2] 24)
            obtain ⟨k12, hk⟩ : ∃ n, v3_9.heap.size = n := ⟨_, rfl⟩
            obtain ⟨v12_10, hw⟩ : ∃ W, v3_9.alloc (.cells #[x.v2, y.v2] 24) = W := ⟨_, rfl⟩
            rw [hw] at hb hN ⊢
            rw [hk] at hN ⊢
            have HK3' := Aside0.mk (blk_below HK3.out hb)
            have hHeld' := hHeld.below hb
            have HK12 := Aside0.mk hN
            refine hK.out _ _ hHeld' (fun hHeld => ?_)
            clear hK K hHeld' hb hN hk hw
            clear HK3
            have HK3 := HK3'
            clear HK3'
            refine norm_ (a' := ?_) ?_ ?_; rotate_left; (show Act.put _ (some 52) _ = _; simp only [Act.put, List.setIfInBounds_toArray, List.set_cons_zero, List.set_cons_succ, i64_w, i32_w]; rfl)
            refine one_ (i := 6) (N := some 46) #[true, true, true, true, true, true, true, false, true, true, true, true, true, false, false, false] rfl rfl (one_of HT_.out (by kernel_rfl)) (by decide) (fun K hK => ?_)
            refine value_ (w1 := v12_10.alloc (.cells #[x.v1, .slice (some ⟨k3, 0, none⟩) 1 1, y.v1] 23)) (v := .slice (some ⟨v12_10.heap.size, 0, none⟩) 3 3) (by rfl) rfl ?_ ?_
            · go_simp
            have hb := (Below.refl v12_10.heap.size v12_10).alloc (Nat.le_refl _) (.cells #[x.v1, .slice (some ⟨k3, 0, none⟩) 1 1, y.v1] 23)
            have hN := blk_new v12_10 (.cells #[x.v1, .slice (some ⟨k3, 0, none⟩) 1 1, y.v1] 23)
            obtain ⟨k6, hk⟩ : ∃ n, v12_10.heap.size = n := ⟨_, rfl⟩
            obtain ⟨v6_11, hw⟩ : ∃ W, v12_10.alloc (.cells #[x.v1, .slice (some ⟨k3, 0, none⟩) 1 1, y.v1] 23) = W := ⟨_, rfl⟩
            rw [hw] at hb hN ⊢
            rw [hk] at hN ⊢
            have HK3' := Aside0.mk (blk_below HK3.out hb)
            have HK12' := Aside0.mk (blk_below HK12.out hb)
            have hHeld' := hHeld.below hb
            have HK6 := Aside0.mk hN
            refine hK.out _ _ hHeld' (fun hHeld => ?_)
            clear hK K hHeld' hb hN hk hw
            clear HK3 HK12
            have HK3 := HK3'
            have HK12 := HK12'
            clear HK3' HK12'
            refine norm_ (a' := ?_) ?_ ?_; rotate_left; (show Act.put _ (some 46) _ = _; simp only [Act.put, List.setIfInBounds_toArray, List.set_cons_zero, List.set_cons_succ, i64_w, i32_w]; rfl)
            refine one_ (i := 7) (N := some 47) #[true, true, true, true, true, true, true, true, true, true, true, true, true, false, false, false] rfl rfl (one_of HT_.out (by kernel_rfl)) (by decide) (fun K hK => ?_)
            refine goes_ Try.func54 (by kernel_rfl) rfl #[.slice (some ⟨k6, 0, none⟩) 3 3] (by rfl) rfl rfl (by (try simp only [List.map_toArray, List.map_cons, List.map_nil]); first | done | rfl) ?_
            refine (concat3_Text x y key v6_11 k6 k3 _ _ (HA.out.1.below hHeld.i.bel) (HA.out.2.below hHeld.i.bel) HK3.out HK6.out (by have h1 := HS.out.1.2.1; have h2 := HS.out.2.2.1; omega)).mono ?_
            rintro e v7_12 ⟨A7, c7, n7, rfl, hn7, hR, hb⟩
            refine ⟨_, rfl, ?_⟩
            have HK3' := Aside0.mk (blk_below HK3.out hb)
            have HK6' := Aside0.mk (blk_below HK6.out hb)
            have HK12' := Aside0.mk (blk_below HK12.out hb)
            have HR7 := Aside0.mk (And.intro hn7 (Kd.R_lower hR hHeld.i.bel.size))
            refine hK.out _ _ (hHeld.below hb) (fun hHeld => ?_)
            clear hK K hb hR hn7
            clear HK3 HK6 HK12
            have HK3 := HK3'
            have HK6 := HK6'
            have HK12 := HK12'
            clear HK3' HK6' HK12'
            refine norm_ (a' := ?_) ?_ ?_; rotate_left; (show Act.put _ (some 47) _ = _; simp only [Act.put, List.setIfInBounds_toArray, List.set_cons_zero, List.set_cons_succ, i64_w, i32_w]; rfl)
            refine one_ (i := 13) (N := some 53) #[true, true, true, true, true, true, true, true, true, true, true, true, true, true, false, false] rfl rfl (one_of HT_.out (by kernel_rfl)) (by decide) (fun K hK => ?_)
            refine goes_ Try.func55 (by kernel_rfl) rfl #[.slice (some ⟨k12, 0, none⟩) 2 2] (by rfl) rfl rfl (by (try simp only [List.map_toArray, List.map_cons, List.map_nil]); first | done | rfl) ?_
            refine (concat2_Num x y v7_12 k12 _ (HA.out.1.below hHeld.i.bel) (HA.out.2.below hHeld.i.bel) HK12.out (by have h1 := HS.out.1.2.2.1; have h2 := HS.out.2.2.2.1; omega)).mono ?_
            rintro e v13_13 ⟨A8, c8, n8, rfl, hn8, hR, hb⟩
            refine ⟨_, rfl, ?_⟩
            have HK3' := Aside0.mk (blk_below HK3.out hb)
            have HK6' := Aside0.mk (blk_below HK6.out hb)
            have HK12' := Aside0.mk (blk_below HK12.out hb)
            have HR7' := Aside0.mk (And.intro HR7.out.1 (Kd.R_below HR7.out.2 hb))
            have HR13 := Aside0.mk (And.intro hn8 (Kd.R_lower hR hHeld.i.bel.size))
            refine hK.out _ _ (hHeld.below hb) (fun hHeld => ?_)
            clear hK K hb hR hn8
            clear HK3 HK6 HK12 HR7
            have HK3 := HK3'
            have HK6 := HK6'
            have HK12 := HK12'
            have HR7 := HR7'
            clear HK3' HK6' HK12' HR7'
            refine norm_ (a' := ?_) ?_ ?_; rotate_left; (show Act.put _ (some 53) _ = _; simp only [Act.put, List.setIfInBounds_toArray, List.set_cons_zero, List.set_cons_succ, i64_w, i32_w]; rfl)
            refine pure_ (i := 14) (N := some 54) (v := ?_) (a' := ?_) #[true, true, true, true, true, true, true, true, true, true, true, true, true, true, true, false] rfl rfl (any_of HT_.out (by kernel_rfl)) (fun _ _ _ h => h) (Or.inl ⟨by rfl, ?_⟩) ?_ ?_; rotate_left; (intro w'; go_simp; with_reducible rfl); rotate_left; (simp only [Act.put, List.setIfInBounds_toArray, List.set_cons_zero, List.set_cons_succ, i64_w, i32_w]; rfl)
            refine last_ (i := 15) (N := none) #[true, true, true, true, true, true, true, true, true, true, true, true, true, true, true, true] rfl rfl (one_of HT_.out (by kernel_rfl)) (by decide) (fun K hK => ?_)
            have p0 : v13_13.cell? ⟨g, 0, none⟩ = some z.v0 := blk_cell hHeld.b8 0
            have f0 : v13_13.frozen? ⟨g, 0, none⟩ = false := blk_frozen hHeld.b8 0
            have p1 : v13_13.cell? ⟨g, 1, none⟩ = some z.v1 := blk_cell hHeld.b8 1
            have f1 : v13_13.frozen? ⟨g, 1, none⟩ = false := blk_frozen hHeld.b8 1
            have p2 : v13_13.cell? ⟨g, 2, none⟩ = some z.v2 := blk_cell hHeld.b8 2
            have f2 : v13_13.frozen? ⟨g, 2, none⟩ = false := blk_frozen hHeld.b8 2
            refine skip_ (w1 := ?_) (by rfl) rfl ?_ ?_
            rotate_left
            · go_simp
              rfl
            clear p0 p1 p2 f0 f1 f2
            have HF := njj_last hHeld A7 c7 n7 A8 c8 n8 HR7.out.1 HR13.out.1 HR7.out.2 HR13.out.2
            refine hK.out _ _ ?_
            clear hK K
            refine done_ (done_of HT_.out (by kernel_rfl)) ?_
            go_wp2
            go_meet
            case rel =>
              refine ⟨rfl, _, Aside0.mk ⟨HF, ?_⟩⟩
              unfold joinL
              rw [isEmpty_len, HN.out.1, decide_eq_false (by omega)]
              rfl
        · refine value_ (w1 := wd.alloc (.cells #[x.v2, y.v2] 24)) (v := .slice (some ⟨wd.heap.size, 0, none⟩) 2 2) (by rfl) rfl ?_ ?_
          · go_simp
          have hb := (Below.refl wd.heap.size wd).alloc (Nat.le_refl _) (.cells #[x.v2, y.v2] 24)
          have hN := blk_new wd (.cells #[x.v2, y.v2] 24)
          obtain ⟨k12, hk⟩ : ∃ n, wd.heap.size = n := ⟨_, rfl⟩
          obtain ⟨v12_9, hw⟩ : ∃ W, wd.alloc (.cells #[x.v2, y.v2] 24) = W := ⟨_, rfl⟩
          rw [hw] at hb hN ⊢
          rw [hk] at hN ⊢
          have hHeld' := hHeld.below hb
          have HK12 := Aside0.mk hN
          refine hK.out _ _ hHeld' (fun hHeld => ?_)
          clear hK K hHeld' hb hN hk hw
          refine norm_ (a' := ?_) ?_ ?_; rotate_left; (show Act.put _ (some 52) _ = _; simp only [Act.put, List.setIfInBounds_toArray, List.set_cons_zero, List.set_cons_succ, i64_w, i32_w]; rfl)
          refine one_ (i := 3) (N := some 43) #[true, true, true, true, true, true, false, false, true, true, true, true, true, false, false, false] rfl rfl (one_of HT_.out (by kernel_rfl)) (by decide) (fun K hK => ?_)
          refine value_ (w1 := v12_9.alloc (.cells #[.string key] 9)) (v := .slice (some ⟨v12_9.heap.size, 0, none⟩) 1 1) (by rfl) rfl ?_ ?_
          · go_simp
          have hb := (Below.refl v12_9.heap.size v12_9).alloc (Nat.le_refl _) (.cells #[.string key] 9)
          have hN := blk_new v12_9 (.cells #[.string key] 9)
          obtain ⟨k3, hk⟩ : ∃ n, v12_9.heap.size = n := ⟨_, rfl⟩
          obtain ⟨v3_10, hw⟩ : ∃ W, v12_9.alloc (.cells #[.string key] 9) = W := ⟨_, rfl⟩
          rw [hw] at hb hN ⊢
          rw [hk] at hN ⊢
          have HK12' := Aside0.mk (blk_below HK12.out hb)
          have hHeld' := hHeld.below hb
          have HK3 := Aside0.mk hN
          refine hK.out _ _ hHeld' (fun hHeld => ?_)
          clear hK K hHeld' hb hN hk hw
          clear HK12
          have HK12 := HK12'
          clear HK12'
          refine norm_ (a' := ?_) ?_ ?_; rotate_left; (show Act.put _ (some 43) _ = _; simp only [Act.put, List.setIfInBounds_toArray, List.set_cons_zero, List.set_cons_succ, i64_w, i32_w]; rfl)
          refine one_ (i := 6) (N := some 46) #[true, true, true, true, true, true, true, false, true, true, true, true, true, false, false, false] rfl rfl (one_of HT_.out (by kernel_rfl)) (by decide) (fun K hK => ?_)
          refine value_ (w1 := v3_10.alloc (.cells #[x.v1, .slice (some ⟨k3, 0, none⟩) 1 1, y.v1] 23)) (v := .slice (some ⟨v3_10.heap.size, 0, none⟩) 3 3) (by rfl) rfl ?_ ?_
          · go_simp
          have hb := (Below.refl v3_10.heap.size v3_10).alloc (Nat.le_refl _) (.cells #[x.v1, .slice (some ⟨k3, 0, none⟩) 1 1, y.v1] 23)
          have hN := blk_new v3_10 (.cells #[x.v1, .slice (some ⟨k3, 0, none⟩) 1 1, y.v1] 23)
          obtain ⟨k6, hk⟩ : ∃ n, v3_10.heap.size = n := ⟨_, rfl⟩
          obtain ⟨v6_11, hw⟩ : ∃ W, v3_10.alloc (.cells #[x.v1, .slice (some ⟨k3, 0, none⟩) 1 1, y.v1] 23) = W := ⟨_, rfl⟩
          rw [hw] at hb hN ⊢
          rw [hk] at hN ⊢
          have HK3' := Aside0.mk (blk_below HK3.out hb)
          have HK12' := Aside0.mk (blk_below HK12.out hb)
          have hHeld' := hHeld.below hb
          have HK6 := Aside0.mk hN
          refine hK.out _ _ hHeld' (fun hHeld => ?_)
          clear hK K hHeld' hb hN hk hw
          clear HK3 HK12
          have HK3 := HK3'
          have HK12 := HK12'
          clear HK3' HK12'
          refine norm_ (a' := ?_) ?_ ?_; rotate_left; (show Act.put _ (some 46) _ = _; simp only [Act.put, List.setIfInBounds_toArray, List.set_cons_zero, List.set_cons_succ, i64_w, i32_w]; rfl)
          refine one_ (i := 7) (N := some 47) #[true, true, true, true, true, true, true, true, true, true, true, true, true, false, false, false] rfl rfl (one_of HT_.out (by kernel_rfl)) (by decide) (fun K hK => ?_)
          refine goes_ Try.func54 (by kernel_rfl) rfl #[.slice (some ⟨k6, 0, none⟩) 3 3] (by rfl) rfl rfl (by (try simp only [List.map_toArray, List.map_cons, List.map_nil]); first | done | rfl) ?_
          refine (concat3_Text x y key v6_11 k6 k3 _ _ (HA.out.1.below hHeld.i.bel) (HA.out.2.below hHeld.i.bel) HK3.out HK6.out (by have h1 := HS.out.1.2.1; have h2 := HS.out.2.2.1; omega)).mono ?_
          rintro e v7_12 ⟨A7, c7, n7, rfl, hn7, hR, hb⟩
          refine ⟨_, rfl, ?_⟩
          have HK3' := Aside0.mk (blk_below HK3.out hb)
          have HK6' := Aside0.mk (blk_below HK6.out hb)
          have HK12' := Aside0.mk (blk_below HK12.out hb)
          have HR7 := Aside0.mk (And.intro hn7 (Kd.R_lower hR hHeld.i.bel.size))
          refine hK.out _ _ (hHeld.below hb) (fun hHeld => ?_)
          clear hK K hb hR hn7
          clear HK3 HK6 HK12
          have HK3 := HK3'
          have HK6 := HK6'
          have HK12 := HK12'
          clear HK3' HK6' HK12'
          refine norm_ (a' := ?_) ?_ ?_; rotate_left; (show Act.put _ (some 47) _ = _; simp only [Act.put, List.setIfInBounds_toArray, List.set_cons_zero, List.set_cons_succ, i64_w, i32_w]; rfl)
          refine one_ (i := 13) (N := some 53) #[true, true, true, true, true, true, true, true, true, true, true, true, true, true, false, false] rfl rfl (one_of HT_.out (by kernel_rfl)) (by decide) (fun K hK => ?_)
          refine goes_ Try.func55 (by kernel_rfl) rfl #[.slice (some ⟨k12, 0, none⟩) 2 2] (by rfl) rfl rfl (by (try simp only [List.map_toArray, List.map_cons, List.map_nil]); first | done | rfl) ?_
          refine (concat2_Num x y v7_12 k12 _ (HA.out.1.below hHeld.i.bel) (HA.out.2.below hHeld.i.bel) HK12.out (by have h1 := HS.out.1.2.2.1; have h2 := HS.out.2.2.2.1; omega)).mono ?_
          rintro e v13_13 ⟨A8, c8, n8, rfl, hn8, hR, hb⟩
          refine ⟨_, rfl, ?_⟩
          have HK3' := Aside0.mk (blk_below HK3.out hb)
          have HK6' := Aside0.mk (blk_below HK6.out hb)
          have HK12' := Aside0.mk (blk_below HK12.out hb)
          have HR7' := Aside0.mk (And.intro HR7.out.1 (Kd.R_below HR7.out.2 hb))
          have HR13 := Aside0.mk (And.intro hn8 (Kd.R_lower hR hHeld.i.bel.size))
          refine hK.out _ _ (hHeld.below hb) (fun hHeld => ?_)
          clear hK K hb hR hn8
          clear HK3 HK6 HK12 HR7
          have HK3 := HK3'
          have HK6 := HK6'
          have HK12 := HK12'
          have HR7 := HR7'
          clear HK3' HK6' HK12' HR7'
          refine norm_ (a' := ?_) ?_ ?_; rotate_left; (show Act.put _ (some 53) _ = _; simp only [Act.put, List.setIfInBounds_toArray, List.set_cons_zero, List.set_cons_succ, i64_w, i32_w]; rfl)
          refine pure_ (i := 14) (N := some 54) (v := ?_) (a' := ?_) #[true, true, true, true, true, true, true, true, true, true, true, true, true, true, true, false] rfl rfl (any_of HT_.out (by kernel_rfl)) (fun _ _ _ h => h) (Or.inl ⟨by rfl, ?_⟩) ?_ ?_; rotate_left; (intro w'; go_simp; with_reducible rfl); rotate_left; (simp only [Act.put, List.setIfInBounds_toArray, List.set_cons_zero, List.set_cons_succ, i64_w, i32_w]; rfl)
          refine last_ (i := 15) (N := none) #[true, true, true, true, true, true, true, true, true, true, true, true, true, true, true, true] rfl rfl (one_of HT_.out (by kernel_rfl)) (by decide) (fun K hK => ?_)
          have p0 : v13_13.cell? ⟨g, 0, none⟩ = some z.v0 := blk_cell hHeld.b8 0
          have f0 : v13_13.frozen? ⟨g, 0, none⟩ = false := blk_frozen hHeld.b8 0
          have p1 : v13_13.cell? ⟨g, 1, none⟩ = some z.v1 := blk_cell hHeld.b8 1
          have f1 : v13_13.frozen? ⟨g, 1, none⟩ = false := blk_frozen hHeld.b8 1
          have p2 : v13_13.cell? ⟨g, 2, none⟩ = some z.v2 := blk_cell hHeld.b8 2
          have f2 : v13_13.frozen? ⟨g, 2, none⟩ = false := blk_frozen hHeld.b8 2
          refine skip_ (w1 := ?_) (by rfl) rfl ?_ ?_
          rotate_left
          · go_simp
            rfl
          clear p0 p1 p2 f0 f1 f2
          have HF := njj_last hHeld A7 c7 n7 A8 c8 n8 HR7.out.1 HR13.out.1 HR7.out.2 HR13.out.2
          refine hK.out _ _ ?_
          clear hK K
          refine done_ (done_of HT_.out (by kernel_rfl)) ?_
          go_wp2
          go_meet
          case rel =>
            refine ⟨rfl, _, Aside0.mk ⟨HF, ?_⟩⟩
            unfold joinL
            rw [isEmpty_len, HN.out.1, decide_eq_false (by omega)]
            rfl
    case rest =>
      obtain ⟨rfl, z', HJ⟩ := hcut
      have hsm : z'.small := by
        have h1 := HS.out.1
        have h2 := HS.out.2
        have h3 := HJ.out.2
        unfold joinL at h3
        split at h3
        all_goals
          simp only [Prod.mk.injEq] at h3
          obtain ⟨e1, e2, e3⟩ := h3
          refine smallB_mk ?_ ?_ ?_
          · rw [e1]; simp <;> omega
          · rw [e2]; simp <;> omega
          · rw [e3]; simp <;> omega
      have HR := Aside0.mk (fun W (hb : NjJ w x y z' g W) => nright_any z' W hb.oz.at_ hsm)
      have q0 : wc.cell? ⟨g, 0, none⟩ = some z'.v0 := blk_cell HJ.out.1.b8 0
      have q1 : wc.cell? ⟨g, 1, none⟩ = some z'.v1 := blk_cell HJ.out.1.b8 1
      have q2 : wc.cell? ⟨g, 2, none⟩ = some z'.v2 := blk_cell HJ.out.1.b8 2
      go_wp2_with fail
      refine (HR.out _ HJ.out.1).mono ?_
      rintro e w7 ⟨rfl, hb7⟩
      have HJ7 := Aside0.mk (And.intro (HJ.out.1.below hb7) HJ.out.2)
      clear q0 q1 q2 hb7 HJ HR r2
      have q0 : w7.cell? ⟨g, 0, none⟩ = some z'.v0 := blk_cell HJ7.out.1.b8 0
      have q1 : w7.cell? ⟨g, 1, none⟩ = some z'.v1 := blk_cell HJ7.out.1.b8 1
      have q2 : w7.cell? ⟨g, 2, none⟩ = some z'.v2 := blk_cell HJ7.out.1.b8 2
      have p0 : w7.cell? ⟨w.heap.size + 1 + 1, 0, none⟩ = some (.slice none 0 0) := blk_cell HJ7.out.1.i.b2 0
      have f0 : w7.frozen? ⟨w.heap.size + 1 + 1, 0, none⟩ = false := blk_frozen HJ7.out.1.i.b2 0
      have p1 : w7.cell? ⟨w.heap.size + 1 + 1, 1, none⟩ = some (.slice none 0 0) := blk_cell HJ7.out.1.i.b2 1
      have f1 : w7.frozen? ⟨w.heap.size + 1 + 1, 1, none⟩ = false := blk_frozen HJ7.out.1.i.b2 1
      have p2 : w7.cell? ⟨w.heap.size + 1 + 1, 2, none⟩ = some (.slice none 0 0) := blk_cell HJ7.out.1.i.b2 2
      have f2 : w7.frozen? ⟨w.heap.size + 1 + 1, 2, none⟩ = false := blk_frozen HJ7.out.1.i.b2 2
      have hem : x.kd.isEmpty = y.kd.isEmpty := by
        rw [isEmpty_len, isEmpty_len, HN.out.1, HN.out.2]
        rcases HNN.out with ⟨h0, h1⟩ | ⟨h0, h1⟩
        · rw [h0, h1]
        · rw [decide_eq_false (by omega), decide_eq_false (by omega)]
      have hjr : rightB (joinL x y key).1 (joinL x y key).2.1 (joinL x y key).2.2 = z'.right := by rw [← HJ7.out.2]; rfl
      cases hzr : z'.right with
      | false =>
        go_wp2
        refine bodyPost_ret (results_list (rs := [.cell 6 26, .tmp 7]) rfl (by simp) (.cell (w.heap.size + 1 + 1) 26 #[.slice none 0 0, .slice none 0 0, .slice none 0 0] (0, 0) _ rfl (blk_set3 HJ7.out.1.i.b2) Try.underlying26 rfl (by kernel_rfl) (.tmp .nil))) rfl ?_
        refine ⟨Nd.none_, 60, rfl, none_own _ _, ?_, below_set3 HJ7.out.1.i.bel (by omega)⟩
        unfold JoinIs joinR
        rw [if_neg (by rw [hjr, hzr]; simp)]
        rfl
      | true =>
        go_wp2
        refine bodyPost_ret (results_list (rs := [.cell 6 26, .tmp 7]) rfl (by simp) (.cell (w.heap.size + 1 + 1) 26 #[z'.v0, z'.v1, z'.v2] (0, 0) _ rfl (blk_set3 HJ7.out.1.i.b2) Try.underlying26 rfl (by kernel_rfl) (.tmp .nil))) rfl ?_
        refine ⟨z', 0, rfl, HJ7.out.1.oz.set3 HJ7.out.1.i.b2, ?_, below_set3 HJ7.out.1.i.bel (by omega)⟩
        unfold JoinIs joinR
        rw [if_pos ⟨HYES.out.1, HYES.out.2, hem, by rw [hjr, hzr]⟩, ← HJ7.out.2]
  all_goals
    have p0 : w4.cell? ⟨w.heap.size + 1 + 1, 0, none⟩ = some (.slice none 0 0) := blk_cell HI4.out.b2 0
    have f0 : w4.frozen? ⟨w.heap.size + 1 + 1, 0, none⟩ = false := blk_frozen HI4.out.b2 0
    have p1 : w4.cell? ⟨w.heap.size + 1 + 1, 1, none⟩ = some (.slice none 0 0) := blk_cell HI4.out.b2 1
    have f1 : w4.frozen? ⟨w.heap.size + 1 + 1, 1, none⟩ = false := blk_frozen HI4.out.b2 1
    have p2 : w4.cell? ⟨w.heap.size + 1 + 1, 2, none⟩ = some (.slice none 0 0) := blk_cell HI4.out.b2 2
    have f2 : w4.frozen? ⟨w.heap.size + 1 + 1, 2, none⟩ = false := blk_frozen HI4.out.b2 2
    go_wp2_with fail
    refine bodyPost_ret (results_list (rs := [.cell 6 26, .tmp 7]) rfl (by simp) (.cell (w.heap.size + 1 + 1) 26 #[.slice none 0 0, .slice none 0 0, .slice none 0 0] (0, 0) _ rfl (blk_set3 HI4.out.b2) Try.underlying26 rfl (by kernel_rfl) (.tmp .nil))) rfl ?_
    refine ⟨Nd.none_, 60, rfl, none_own _ _, ?_, below_set3 HI4.out.bel (by omega)⟩
    unfold JoinIs joinR
    rw [if_neg HNO.out]
    rfl
end Go.Proofs.Ytejempihaknplaa.G
