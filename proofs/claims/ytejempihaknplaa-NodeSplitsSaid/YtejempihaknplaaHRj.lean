/- package bazaarref06: Join by hand. -/
import Derived.Test.YtejempihaknplaaHJoin
import Derived.Test.YtejempihaknplaaHRs
namespace Go.Proofs.Ytejempihaknplaa.G
open Go.RowKit Go.Proofs.YtejempihaknplaaW.PrintWords Go.Proofs.YtejempihaknplaaW.PrintLast Go.Proofs.YtejempihaknplaaW.PrintMore
set_option linter.unusedVariables false
set_option linter.unusedSimpArgs false

/-- append, as a step of a region: whatever the call's own row is. -/
theorem step_more {α : Type} {P : Program} {ops : Array Oper} {o : Oper} {a : Act} {w0 W : World} {Kc : Act → World → Prop} {Q : Exit → Act → World → Prop} (d : Kd α) (base : Nat) (hw : Region.wanted o (yielded ops a.tmps) = true) (s x : Operand) (t e : TypeId) (z : Value) (bytes : Nat)
    (ho : o.op = .call { callee := .builtin .append, args := #[s, x], argTypes := #[t, t] })
    (ht : P.underlying t = some (.slice e)) (hinfo : (P.info? e).map (fun i => (i.zero, i.size, i.bytes)) = some (some z, d.sz, bytes)) (hz : z.cells.size = d.sz) (hs0 : 0 < d.sz) (hb0 : 0 < bytes)
    (xs ys : List α) (A : Option Addr) (m c : Nat) (v : Value) (hs : a.eval s = v) (hx : a.eval x = .slice A m c) (HO : Kd.R d e W base (fun _ => True) v xs) (HR : Kd.C d W A ys.length ys) (hm : m = ys.length) (hKM : ∀ x cs, d.K W x cs → d.M W base (fun _ => False) x cs) (HB : Below base w0 W) (hbase : base ≤ W.heap.size) (hl : (xs.length + ys.length) * bytes ≤ 140737488355328)
    (h : ∀ A' n' c' w1, n' = (xs ++ ys).length → Kd.R d e w1 base (fun _ => True) (.slice A' n' c') (xs ++ ys) → Below base w0 w1 → Kc (a.put o.dst (.slice A' n' c')) w1) :
    if Region.wanted o (yielded ops a.tmps) = true then Oper.wp P o a W Kc Q else Kc (a.put o.dst undef) W := by
  subst hm
  refine Kd.R_append_rows_step d (w0 := w0) base hw s x t e z bytes ho ht hinfo hz hs0 hb0 v xs ys A ys.length c (fun _ => True) (fun _ => False) hs hx HO HR hKM (fun _ h => h.elim) (fun _ _ => trivial) HB hbase hl ?_
  intro v1 w1 hR hB _ _
  obtain ⟨A', c', rfl, _⟩ := Kd.R_reads hR
  exact h A' _ c' w1 rfl hR hB
theorem njj_set0 {w W : World} {x y z : Nd} {g n c : Nat} {A : Option Addr} {l : List _} (h : NjJ w x y z g W) (hR : Kd.R k39 39 W w.heap.size (fun _ => True) (.slice A n c) l) (hn : n = l.length) : NjJ w x y { z with A0 := A, c0 := c, ps := l } g (W.setCell ⟨g, 0, none⟩ (.slice A n c)) := by
  subst hn
  have hle := h.le8
  exact ⟨⟨blk_far h.i.b0 (by dsimp only; omega) _, blk_far h.i.b1 (by dsimp only; omega) _, blk_far h.i.b2 (by dsimp only; omega) _, h.i.bel.setCell (by dsimp only; omega) _, by rw [World.size_setCell]; exact h.i.le⟩, blk_put h.b8 0 _ rfl, ⟨Kd.R_set hR h.b8 (by decide) 0 _, Kd.R_set h.oz.k h.b8 (by decide) 0 _, Kd.R_set h.oz.d h.b8 (by decide) 0 _⟩, h.le8⟩
theorem njj_set1 {w W : World} {x y z : Nd} {g n c : Nat} {A : Option Addr} {l : List _} (h : NjJ w x y z g W) (hR : Kd.R Kd.string 9 W w.heap.size (fun _ => True) (.slice A n c) l) (hn : n = l.length) : NjJ w x y { z with A1 := A, c1 := c, ks := l } g (W.setCell ⟨g, 1, none⟩ (.slice A n c)) := by
  subst hn
  have hle := h.le8
  exact ⟨⟨blk_far h.i.b0 (by dsimp only; omega) _, blk_far h.i.b1 (by dsimp only; omega) _, blk_far h.i.b2 (by dsimp only; omega) _, h.i.bel.setCell (by dsimp only; omega) _, by rw [World.size_setCell]; exact h.i.le⟩, blk_put h.b8 1 _ rfl, ⟨Kd.R_set h.oz.p h.b8 (by decide) 1 _, Kd.R_set hR h.b8 (by decide) 1 _, Kd.R_set h.oz.d h.b8 (by decide) 1 _⟩, h.le8⟩
theorem njj_set2 {w W : World} {x y z : Nd} {g n c : Nat} {A : Option Addr} {l : List _} (h : NjJ w x y z g W) (hR : Kd.R (Kd.int .u32) 65 W w.heap.size (fun _ => True) (.slice A n c) l) (hn : n = l.length) : NjJ w x y { z with A2 := A, c2 := c, kd := l } g (W.setCell ⟨g, 2, none⟩ (.slice A n c)) := by
  subst hn
  have hle := h.le8
  exact ⟨⟨blk_far h.i.b0 (by dsimp only; omega) _, blk_far h.i.b1 (by dsimp only; omega) _, blk_far h.i.b2 (by dsimp only; omega) _, h.i.bel.setCell (by dsimp only; omega) _, by rw [World.size_setCell]; exact h.i.le⟩, blk_put h.b8 2 _ rfl, ⟨Kd.R_set h.oz.p h.b8 (by decide) 2 _, Kd.R_set h.oz.k h.b8 (by decide) 2 _, Kd.R_set hR h.b8 (by decide) 2 _⟩, h.le8⟩
theorem cut_join {x y z : Nd} {key : ByteArray} (h : (z.ps, z.ks, z.kd) = joinL x y key) (hx : x.cut) (hy : y.cut) (hk : key.size ≤ 70) (rx : x.right = true) (ry : y.right = true) : z.cut := by
  have h1 := right_sizes rx
  have h2 := right_sizes ry
  unfold joinL at h
  unfold Nd.cut Cut
  split at h
  all_goals
    simp only [Prod.mk.injEq] at h
    obtain ⟨e1, e2, e3⟩ := h
    rw [e1, e2, e3]
  · refine ⟨smallB_mk (by rw [List.length_append]; omega) (by simp) (by simp), fun p hp => ?_, fun s hs => by simp at hs⟩
    rcases List.mem_append.1 hp with hp | hp
    · exact hx.2.1 p hp
    · exact hy.2.1 p hp
  · refine ⟨smallB_mk (by simp) (by simp; omega) (by simp; omega), fun p hp => by simp at hp, fun s hs => ?_⟩
    rcases List.mem_append.1 hs with hs | hs
    · exact hx.2.2 s hs
    · rcases List.mem_cons.1 hs with rfl | hs
      · exact hk
      · exact hy.2.2 s hs
def rJoin.T6 : Bool × List (List Nat × List Nat) := (true, [([], []), ([0], [0]), ([], []), ([2], [2]), ([1, 3], [1, 3]), ([], []), ([5], [5]), ([4, 6, 4], [4, 6]), ([0, 1, 2, 3, 4, 5, 6, 7], []), ([8, 7, 7, 0, 1, 2, 3, 4, 5, 6, 7], [7, 8])])
def rJoin.B6 : List Nat := [0, 1, 0, 4, 15, 0, 32, 127, 255, 511]
theorem rJoin.tab6 : rtab .any (opsOf Try.f30 6) = rJoin.T6 := by kernel_rfl
theorem rJoin.bits6 : waitsOk rJoin.T6.2 rJoin.B6 = true := by kernel_rfl
def rJoin.T8 : Bool × List (List Nat × List Nat) := (true, [([], []), ([0], [0]), ([], []), ([2], [2]), ([1, 3], [1, 3]), ([], []), ([5], [5]), ([4, 6, 4], [4, 6]), ([], []), ([8], [8]), ([7, 9, 7], [7, 9]), ([0, 1, 2, 3, 4, 5, 6, 7, 8, 9, 10], []), ([11, 10, 10, 0, 1, 2, 3, 4, 5, 6, 7, 8, 9, 10], [10, 11])])
def rJoin.B8 : List Nat := [0, 1, 0, 4, 15, 0, 32, 127, 0, 256, 1023, 2047, 4095]
theorem rJoin.tab8 : rtab .any (opsOf Try.f30 8) = rJoin.T8 := by kernel_rfl
theorem rJoin.bits8 : waitsOk rJoin.T8.2 rJoin.B8 = true := by kernel_rfl
def rJoin.T9 : Bool × List (List Nat × List Nat) := (true, [([], []), ([0], [0]), ([], []), ([2], [2]), ([1, 3], [1, 3]), ([], []), ([5], [5]), ([4, 6, 4], [4, 6]), ([0, 1, 2, 3, 4, 5, 6, 7], []), ([8, 7, 7, 0, 1, 2, 3, 4, 5, 6, 7], [7, 8])])
def rJoin.B9 : List Nat := [0, 1, 0, 4, 15, 0, 32, 127, 255, 511]
theorem rJoin.tab9 : rtab .any (opsOf Try.f30 9) = rJoin.T9 := by kernel_rfl
theorem rJoin.bits9 : waitsOk rJoin.T9.2 rJoin.B9 = true := by kernel_rfl

set_option maxRecDepth 100000 in
set_option maxHeartbeats 8000000 in
theorem rjoin_any (x y : Nd) (key : ByteArray) (w : World) (hx : x.At w) (hy : y.At w) (cx : x.cut) (cy : y.cut) (hk : key.size ≤ 70) :
    Calls Try.prog 30 #[.agg #[x.v0, x.v1, x.v2], .string key, .agg #[y.v0, y.v1, y.v2]] w fun e w' => ∃ (z : Nd) (err : Int), e = .returned (.tuple #[.agg #[z.v0, z.v1, z.v2], .int .i64 err]) ∧ z.Own w' w.heap.size ∧ JoinIs x y z key err ∧ Below w.heap.size w w' := by
  have HX := Aside0.mk (fun W (hb : Below w.heap.size w W) => rright_any x W (hx.below hb) cx)
  have HY := Aside0.mk (fun W (hb : Below w.heap.size w W) => rright_any y W (hy.below hb) cy)
  have HA := Aside0.mk (And.intro hx hy)
  have HCU := Aside0.mk (And.intro cx (And.intro cy hk))
  obtain ⟨nx, hnx⟩ : ∃ n, x.kd.length = n := ⟨_, rfl⟩
  obtain ⟨ny, hny⟩ : ∃ n, y.kd.length = n := ⟨_, rfl⟩
  have HN := Aside0.mk (And.intro hnx hny)
  obtain ⟨rx, hrx⟩ : ∃ b, x.right = b := ⟨_, rfl⟩
  obtain ⟨ry, hry⟩ : ∃ b, y.right = b := ⟨_, rfl⟩
  have HRR := Aside0.mk (And.intro hrx hry)
  rw [hrx] at HX
  rw [hry] at HY
  clear hx hy cx cy hk hnx hny hrx hry
  go_enter Try.func30, Try.ntmps30
  go_wp2_with fail
  obtain ⟨W1, hW1⟩ : ∃ W1, ((w.alloc (.cells #[x.v0, x.v1, x.v2] 26)).alloc (.cells #[y.v0, y.v1, y.v2] 26)).alloc (.cells #[.slice none 0 0, .slice none 0 0, .slice none 0 0] 26) = W1 := ⟨_, rfl⟩
  have HI1 : Aside0 (NjI w x y W1) := Aside0.mk (by rw [← hW1]; exact nji_new w x y)
  rw [hW1]
  clear hW1
  refine (HX.out _ HI1.out.bel).mono ?_
  rintro e w3 ⟨rfl, hb3⟩
  have HI := Aside0.mk (HI1.out.below hb3)
  clear HI1 hb3 HX
  have r0 : w3.cell? ⟨w.heap.size + 1, 0, none⟩ = some y.v0 := blk_cell HI.out.b1 0
  have r1 : w3.cell? ⟨w.heap.size + 1, 1, none⟩ = some y.v1 := blk_cell HI.out.b1 1
  have r2 : w3.cell? ⟨w.heap.size + 1, 2, none⟩ = some y.v2 := blk_cell HI.out.b1 2
  go_wp2_with fail
  refine (HY.out _ HI.out.bel).mono ?_
  rintro e w4 ⟨rfl, hb4⟩
  have HI4 := Aside0.mk (HI.out.below hb4)
  clear r0 r1 r2 hb4 HI HY
  go_upto_region 4 with (fail)
  obtain ⟨g, hg⟩ : ∃ n, w4.heap.size = n := ⟨_, rfl⟩
  obtain ⟨WB, hWB⟩ : ∃ WB, w4.alloc (.cells #[.slice none 0 0, .slice none 0 0, .slice none 0 0] 26) = WB := ⟨_, rfl⟩
  have HB0 : Aside0 (NjJ w x y Nd.none_ g WB) := Aside0.mk (by
    have hal := (Below.refl w4.heap.size w4).alloc (Nat.le_refl _) (.cells #[.slice none 0 0, .slice none 0 0, .slice none 0 0] 26)
    have hn := blk_new w4 (.cells #[.slice none 0 0, .slice none 0 0, .slice none 0 0] 26)
    have hle := HI4.out.le
    rw [← hWB, ← hg]
    exact ⟨HI4.out.below hal, hn, ⟨Kd.R_nil _ _ _ _ _, Kd.R_nil _ _ _ _ _, Kd.R_nil _ _ _ _ _⟩, hle⟩)
  rw [hWB, hg]
  clear hWB hg HI4
  have r2 : WB.cell? ⟨w.heap.size, 2, none⟩ = some (.slice x.A2 nx x.c2) := by rw [← HN.out.1]; exact blk_cell HB0.out.i.b0 2
  have r5 : WB.cell? ⟨w.heap.size + 1, 2, none⟩ = some (.slice y.A2 ny y.c2) := by rw [← HN.out.2]; exact blk_cell HB0.out.i.b1 2
  by_cases hok : (rx = true ∧ ry = true) ∧ ((nx = 0 ∧ ny = 0) ∨ (0 < nx ∧ 0 < ny))
  case neg =>
    have HNO : Aside0 (¬ (x.right = true ∧ y.right = true ∧ x.kd.isEmpty = y.kd.isEmpty ∧ rightB (joinL x y key).1 (joinL x y key).2.1 (joinL x y key).2.2 = true)) := Aside0.mk (fun h => hok (by
      have h3 := h.2.2.1
      rw [isEmpty_len, isEmpty_len, HN.out.1, HN.out.2] at h3
      have h4 : (nx = 0) ↔ (ny = 0) := by simpa using h3
      exact ⟨⟨by rw [← HRR.out.1]; exact h.1, by rw [← HRR.out.2]; exact h.2.1⟩, by omega⟩))
    have hno : rx = false ∨ (rx = true ∧ ry = false) ∨ (rx = true ∧ ry = true ∧ nx = 0 ∧ 0 < ny) ∨ (rx = true ∧ ry = true ∧ 0 < nx ∧ ny = 0) := by
      cases rx <;> cases ry <;> simp at hok ⊢ <;> omega
    have q0 : WB.cell? ⟨g, 0, none⟩ = some (.slice none 0 0) := blk_cell HB0.out.b8 0
    have q1 : WB.cell? ⟨g, 1, none⟩ = some (.slice none 0 0) := blk_cell HB0.out.b8 1
    have q2 : WB.cell? ⟨g, 2, none⟩ = some (.slice none 0 0) := blk_cell HB0.out.b8 2
    have p0 : WB.cell? ⟨w.heap.size + 1 + 1, 0, none⟩ = some (.slice none 0 0) := blk_cell HB0.out.i.b2 0
    have f0 : WB.frozen? ⟨w.heap.size + 1 + 1, 0, none⟩ = false := blk_frozen HB0.out.i.b2 0
    have p1 : WB.cell? ⟨w.heap.size + 1 + 1, 1, none⟩ = some (.slice none 0 0) := blk_cell HB0.out.i.b2 1
    have f1 : WB.frozen? ⟨w.heap.size + 1 + 1, 1, none⟩ = false := blk_frozen HB0.out.i.b2 1
    have p2 : WB.cell? ⟨w.heap.size + 1 + 1, 2, none⟩ = some (.slice none 0 0) := blk_cell HB0.out.i.b2 2
    have f2 : WB.frozen? ⟨w.heap.size + 1 + 1, 2, none⟩ = false := blk_frozen HB0.out.i.b2 2
    clear hok
    rcases hno with rfl | ⟨rfl, rfl⟩ | ⟨rfl, rfl, h0, h1⟩ | ⟨rfl, rfl, h0, h1⟩
    case' inr.inr.inl =>
      have n0 : ¬ 0 < nx := by omega
      have n1 : 0 < ny := by omega
    case' inr.inr.inr =>
      have n0 : 0 < nx := by omega
      have n1 : ¬ 0 < ny := by omega
    all_goals
      try clear h0 h1
      go_wp2_with fail
      refine bodyPost_ret (results_list (rs := [.cell 6 26, .tmp 7]) rfl (by simp) (.cell (w.heap.size + 1 + 1) 26 #[.slice none 0 0, .slice none 0 0, .slice none 0 0] (0, 0) _ rfl (blk_set3 HB0.out.i.b2) Try.underlying26 rfl (by kernel_rfl) (.tmp .nil))) rfl ?_
      refine ⟨Nd.none_, 60, rfl, none_own _ _, ?_, below_set3 HB0.out.i.bel (by omega)⟩
      unfold JoinIs joinR
      rw [if_neg HNO.out]
      rfl
  case pos =>
    obtain ⟨⟨rfl, rfl⟩, hnn⟩ := hok
    have HNN := Aside0.mk hnn
    have HS := Aside0.mk (And.intro (right_sizes HRR.out.1) (right_sizes HRR.out.2))
    have hnn' : (¬ 0 < nx ∧ ¬ 0 < ny) ∨ (0 < nx ∧ 0 < ny) := by omega
    have HZV := Aside0.mk (show Nd.none_.v0 = .slice none 0 0 ∧ Nd.none_.v1 = .slice none 0 0 ∧ Nd.none_.v2 = .slice none 0 0 from ⟨rfl, rfl, rfl⟩)
    clear hnn
    rcases hnn' with ⟨n0, n1⟩ | ⟨n0, n1⟩
    all_goals
      go_upto_region 6 with (fail)
      refine start_ (n := 10) (S := fun W' => Below WB.heap.size WB W') (ds := [9]) #[false, false, false, false, false, false, false, false, false, false] (by kernel_rfl) rfl rfl (Below.refl WB.heap.size WB).drew (fun hHeld => ?_)
      refine with_tabW rJoin.tab6 rJoin.bits6 (fun HT_ HW_ => ?_)
      generalize WB.drew = wd at hHeld ⊢
      refine pure_ (i := 0) (N := some 34) (v := ?_) (a' := ?_) #[true, false, false, false, false, false, false, false, false, false] rfl rfl (any_of HT_.out (by kernel_rfl)) (fun _ _ _ h => h) (Or.inl ⟨by rfl, ?_⟩) ?_ ?_; rotate_left; (intro w'; go_simp; with_reducible rfl); rotate_left; (simp only [Act.put, List.setIfInBounds_toArray, List.set_cons_zero, List.set_cons_succ, i64_w, i32_w]; rfl)
      refine take_ (i := 1) (N := some 35) (v := ?_) (a' := ?_) #[true, true, false, false, false, false, false, false, false, false] rfl rfl (take_ofW HT_.out HW_.out (by kernel_rfl)) (fun _ _ _ h => h) (Or.inl ⟨by rfl, ?_⟩) hHeld ?_ ?_; rotate_left; (intro w' hS; have q0 : w'.cell? ⟨g, 0, none⟩ = some (.slice none 0 0) := (by rw [← HZV.out.1]; exact blk_cell (HB0.out.below hS).b8 0); go_simp; with_reducible rfl); rotate_left; (simp only [Act.put, List.setIfInBounds_toArray, List.set_cons_zero, List.set_cons_succ, i64_w, i32_w]; rfl)
      refine pure_ (i := 2) (N := some 36) (v := ?_) (a' := ?_) #[true, true, true, false, false, false, false, false, false, false] rfl rfl (any_of HT_.out (by kernel_rfl)) (fun _ _ _ h => h) (Or.inl ⟨by rfl, ?_⟩) ?_ ?_; rotate_left; (intro w'; go_simp; with_reducible rfl); rotate_left; (simp only [Act.put, List.setIfInBounds_toArray, List.set_cons_zero, List.set_cons_succ, i64_w, i32_w]; rfl)
      refine take_ (i := 3) (N := some 37) (v := ?_) (a' := ?_) #[true, true, true, true, false, false, false, false, false, false] rfl rfl (take_ofW HT_.out HW_.out (by kernel_rfl)) (fun _ _ _ h => h) (Or.inl ⟨by rfl, ?_⟩) hHeld ?_ ?_; rotate_left; (intro w' hS; have q0 : w'.cell? ⟨w.heap.size, 0, none⟩ = some x.v0 := blk_cell (HB0.out.below hS).i.b0 0; go_simp; with_reducible rfl); rotate_left; (simp only [Act.put, List.setIfInBounds_toArray, List.set_cons_zero, List.set_cons_succ, i64_w, i32_w]; rfl)
      refine pure_ (i := 5) (N := some 39) (v := ?_) (a' := ?_) #[true, true, true, true, false, true, false, false, false, false] rfl rfl (any_of HT_.out (by kernel_rfl)) (fun _ _ _ h => h) (Or.inl ⟨by rfl, ?_⟩) ?_ ?_; rotate_left; (intro w'; go_simp; with_reducible rfl); rotate_left; (simp only [Act.put, List.setIfInBounds_toArray, List.set_cons_zero, List.set_cons_succ, i64_w, i32_w]; rfl)
      refine take_ (i := 6) (N := some 40) (v := ?_) (a' := ?_) #[true, true, true, true, false, true, true, false, false, false] rfl rfl (take_ofW HT_.out HW_.out (by kernel_rfl)) (fun _ _ _ h => h) (Or.inl ⟨by rfl, ?_⟩) hHeld ?_ ?_; rotate_left; (intro w' hS; have q0 : w'.cell? ⟨w.heap.size + 1, 0, none⟩ = some y.v0 := blk_cell (HB0.out.below hS).i.b1 0; go_simp; with_reducible rfl); rotate_left; (simp only [Act.put, List.setIfInBounds_toArray, List.set_cons_zero, List.set_cons_succ, i64_w, i32_w]; rfl)
      refine one_ (i := 4) (N := some 38) #[true, true, true, true, true, true, true, false, false, false] rfl rfl (one_of HT_.out (by kernel_rfl)) (by decide) (fun K hK => ?_)
      refine step_more k39 (w0 := WB) WB.heap.size (by rfl) (.tmp 35) (.tmp 37) 22 39 (.agg #[(.string ⟨#[]⟩), (.string ⟨#[]⟩)]) 32 (by rfl) Try.underlying22 info39 rfl (by decide) (by decide) ([]) (x.ps) (x.A0) (x.ps.length) (x.c0) _ (by rfl) (by rfl) (Kd.R_nil _ _ _ _ _) (Kd.C_below HA.out.1.p (HB0.out.i.bel.trans (hHeld.mono HB0.out.i.bel.size))) (rfl) (fun x cs h => h) hHeld hHeld.size (by have h1 := HS.out.1.1; simp only [List.length_nil]; omega) ?_
      intro A4 n4 c4 wa hn hR hb
      have HR4 := Aside0.mk (And.intro hn hR)
      refine hK.out _ _ hb (fun hHeld => ?_)
      clear hK K hn hR hb
      refine norm_ (a' := ?_) ?_ ?_; rotate_left; (show Act.put _ (some 38) _ = _; simp only [Act.put, List.setIfInBounds_toArray, List.set_cons_zero, List.set_cons_succ, i64_w, i32_w]; rfl)
      refine one_ (i := 7) (N := some 41) #[true, true, true, true, true, true, true, true, false, false] rfl rfl (one_of HT_.out (by kernel_rfl)) (by decide) (fun K hK => ?_)
      refine step_more k39 (w0 := WB) WB.heap.size (by rfl) (.tmp 38) (.tmp 40) 22 39 (.agg #[(.string ⟨#[]⟩), (.string ⟨#[]⟩)]) 32 (by rfl) Try.underlying22 info39 rfl (by decide) (by decide) ([] ++ x.ps) (y.ps) (y.A0) (y.ps.length) (y.c0) _ (by rfl) (by rfl) (HR4.out.2) (Kd.C_below HA.out.2.p (HB0.out.i.bel.trans (hHeld.mono HB0.out.i.bel.size))) (rfl) (fun x cs h => h) hHeld hHeld.size (by have h1 := HS.out.1.1; have h2 := HS.out.2.1; simp only [List.nil_append]; omega) ?_
      intro A7 n7 c7 wb hn hR hb
      have HR7 := Aside0.mk (And.intro hn hR)
      refine hK.out _ _ hb (fun hHeld => ?_)
      clear hK K hn hR hb
      refine norm_ (a' := ?_) ?_ ?_; rotate_left; (show Act.put _ (some 41) _ = _; simp only [Act.put, List.setIfInBounds_toArray, List.set_cons_zero, List.set_cons_succ, i64_w, i32_w]; rfl)
      refine pure_ (i := 8) (N := some 42) (v := ?_) (a' := ?_) #[true, true, true, true, true, true, true, true, true, false] rfl rfl (any_of HT_.out (by kernel_rfl)) (fun _ _ _ h => h) (Or.inl ⟨by rfl, ?_⟩) ?_ ?_; rotate_left; (intro w'; go_simp; with_reducible rfl); rotate_left; (simp only [Act.put, List.setIfInBounds_toArray, List.set_cons_zero, List.set_cons_succ, i64_w, i32_w]; rfl)
      refine last_ (i := 9) (N := none) #[true, true, true, true, true, true, true, true, true, true] rfl rfl (one_of HT_.out (by kernel_rfl)) (by decide) (fun K hK => ?_)
      have HL := HB0.out.below hHeld
      have p0 : wb.cell? ⟨g, 0, none⟩ = some _ := blk_cell HL.b8 0
      have f0 : wb.frozen? ⟨g, 0, none⟩ = false := blk_frozen HL.b8 0
      refine skip_ (w1 := ?_) (by rfl) rfl ?_ ?_
      rotate_left
      · go_simp
        rfl
      clear p0 f0
      have HF := njj_set0 HL (Kd.R_lower HR7.out.2 HB0.out.i.bel.size) HR7.out.1
      refine hK.out _ _ ?_
      clear hK K
      refine done_ (done_of HT_.out (by kernel_rfl)) ?_
      clear HR4 HR7 HL
      obtain ⟨z, hz⟩ : ∃ z : Nd, z = { Nd.none_ with A0 := A7, c0 := c7, ps := [] ++ x.ps ++ y.ps } := ⟨_, rfl⟩
      rw [← hz] at HF
      obtain ⟨WC, hWC⟩ : ∃ W, wb.setCell ⟨g, 0, none⟩ (.slice A7 n7 c7) = W := ⟨_, rfl⟩
      rw [hWC] at HF ⊢
      have HZ := Aside0.mk (show z.v1 = .slice none 0 0 ∧ z.v2 = .slice none 0 0 ∧ (z.ps, z.ks, z.kd) = (x.ps ++ y.ps, [], []) by rw [hz]; exact ⟨rfl, rfl, rfl⟩)
      have HC0 := Aside0.mk HF
      clear hz hWC HF HB0 HZV
      have r2 : WC.cell? ⟨w.heap.size, 2, none⟩ = some (.slice x.A2 nx x.c2) := by rw [← HN.out.1]; exact blk_cell HC0.out.i.b0 2
      go_upto_if 46 with (fail)
      go_cut [7] (fun v7 wc => v7 = .int .i64 0 ∧ ∃ z' : Nd, Aside0 (NjJ w x y z' g wc ∧ (z'.ps, z'.ks, z'.kd) = joinL x y key))
    · go_wp2
      go_meet
      case rel =>
        refine ⟨rfl, z, Aside0.mk ⟨HC0.out, ?_⟩⟩
        rw [HZ.out.2.2]
        unfold joinL
        rw [isEmpty_len, HN.out.1, decide_eq_true (by omega)]
        rfl
    rotate_left
    · have HZV := Aside0.mk (And.intro trivial HZ.out)
      go_upto_region 8 with (fail)
      go_cut [7] (fun v7 wc => v7 = .int .i64 0 ∧ ∃ A c, Aside0 (NjJ w x y { z with A1 := A, c1 := c, ks := x.ks ++ [key] ++ y.ks } g wc))
      case first =>
        refine start_ (n := 13) (S := fun W' => Below WC.heap.size WC W') (ds := [12]) #[false, false, false, false, false, false, false, false, false, false, false, false, false] (by kernel_rfl) rfl rfl (Below.refl WC.heap.size WC).drew (fun hHeld => ?_)
        refine with_tabW rJoin.tab8 rJoin.bits8 (fun HT_ HW_ => ?_)
        generalize WC.drew = wd at hHeld ⊢
        refine pure_ (i := 0) (N := some 47) (v := ?_) (a' := ?_) #[true, false, false, false, false, false, false, false, false, false, false, false, false] rfl rfl (any_of HT_.out (by kernel_rfl)) (fun _ _ _ h => h) (Or.inl ⟨by rfl, ?_⟩) ?_ ?_; rotate_left; (intro w'; go_simp; with_reducible rfl); rotate_left; (simp only [Act.put, List.setIfInBounds_toArray, List.set_cons_zero, List.set_cons_succ, i64_w, i32_w]; rfl)
        refine take_ (i := 1) (N := some 48) (v := ?_) (a' := ?_) #[true, true, false, false, false, false, false, false, false, false, false, false, false] rfl rfl (take_ofW HT_.out HW_.out (by kernel_rfl)) (fun _ _ _ h => h) (Or.inl ⟨by rfl, ?_⟩) hHeld ?_ ?_; rotate_left; (intro w' hS; have q0 : w'.cell? ⟨g, 1, none⟩ = some (.slice none 0 0) := (by rw [← HZV.out.2.1]; exact blk_cell (HC0.out.below hS).b8 1); go_simp; with_reducible rfl); rotate_left; (simp only [Act.put, List.setIfInBounds_toArray, List.set_cons_zero, List.set_cons_succ, i64_w, i32_w]; rfl)
        refine pure_ (i := 2) (N := some 49) (v := ?_) (a' := ?_) #[true, true, true, false, false, false, false, false, false, false, false, false, false] rfl rfl (any_of HT_.out (by kernel_rfl)) (fun _ _ _ h => h) (Or.inl ⟨by rfl, ?_⟩) ?_ ?_; rotate_left; (intro w'; go_simp; with_reducible rfl); rotate_left; (simp only [Act.put, List.setIfInBounds_toArray, List.set_cons_zero, List.set_cons_succ, i64_w, i32_w]; rfl)
        refine take_ (i := 3) (N := some 50) (v := ?_) (a' := ?_) #[true, true, true, true, false, false, false, false, false, false, false, false, false] rfl rfl (take_ofW HT_.out HW_.out (by kernel_rfl)) (fun _ _ _ h => h) (Or.inl ⟨by rfl, ?_⟩) hHeld ?_ ?_; rotate_left; (intro w' hS; have q0 : w'.cell? ⟨w.heap.size, 1, none⟩ = some x.v1 := blk_cell (HC0.out.below hS).i.b0 1; go_simp; with_reducible rfl); rotate_left; (simp only [Act.put, List.setIfInBounds_toArray, List.set_cons_zero, List.set_cons_succ, i64_w, i32_w]; rfl)
        refine pure_ (i := 5) (N := some 52) (v := ?_) (a' := ?_) #[true, true, true, true, false, true, false, false, false, false, false, false, false] rfl rfl (any_of HT_.out (by kernel_rfl)) (fun _ _ _ h => h) (Or.inl ⟨by rfl, ?_⟩) ?_ ?_; rotate_left; (intro w'; go_simp; with_reducible rfl); rotate_left; (simp only [Act.put, List.setIfInBounds_toArray, List.set_cons_zero, List.set_cons_succ, i64_w, i32_w]; rfl)
        refine pure_ (i := 8) (N := some 55) (v := ?_) (a' := ?_) #[true, true, true, true, false, true, false, false, true, false, false, false, false] rfl rfl (any_of HT_.out (by kernel_rfl)) (fun _ _ _ h => h) (Or.inl ⟨by rfl, ?_⟩) ?_ ?_; rotate_left; (intro w'; go_simp; with_reducible rfl); rotate_left; (simp only [Act.put, List.setIfInBounds_toArray, List.set_cons_zero, List.set_cons_succ, i64_w, i32_w]; rfl)
        refine take_ (i := 9) (N := some 56) (v := ?_) (a' := ?_) #[true, true, true, true, false, true, false, false, true, true, false, false, false] rfl rfl (take_ofW HT_.out HW_.out (by kernel_rfl)) (fun _ _ _ h => h) (Or.inl ⟨by rfl, ?_⟩) hHeld ?_ ?_; rotate_left; (intro w' hS; have q0 : w'.cell? ⟨w.heap.size + 1, 1, none⟩ = some y.v1 := blk_cell (HC0.out.below hS).i.b1 1; go_simp; with_reducible rfl); rotate_left; (simp only [Act.put, List.setIfInBounds_toArray, List.set_cons_zero, List.set_cons_succ, i64_w, i32_w]; rfl)
        refine two_ (i := 4) (j := 6) (Ni := some 51) (Nj := some 53) #[true, true, true, true, true, true, false, false, true, true, false, false, false] #[true, true, true, true, false, true, true, false, true, true, false, false, false] rfl rfl rfl rfl (two_of HT_.out (by kernel_rfl)) (by decide) (by decide) (fun K hK => ?_) (fun K hK => ?_)
        · refine step_new Kd.string (by rfl) (.tmp 48) (.tmp 50) 23 9 (.string ⟨#[]⟩) 16 (by rfl) Try.underlying23 info9 rfl (by decide) (by decide) x.ks x.A1 x.ks.length x.c1 (by rfl) (by rfl) (Kd.C_below HA.out.1.k (HC0.out.i.bel.trans (hHeld.mono HC0.out.i.bel.size))) rfl (fun x cs h => h) (by have h1 := HS.out.1.2.1; omega) ?_
          intro A4 c4 wa hR hb
          have HR4 := Aside0.mk (Kd.R_lower hR hHeld.size)
          refine hK.out _ _ (hHeld.trans (hb.mono hHeld.size)) (fun hHeld => ?_)
          clear hK K hR hb
          refine norm_ (a' := ?_) ?_ ?_; rotate_left; (show Act.put _ (some 51) _ = _; simp only [Act.put, List.setIfInBounds_toArray, List.set_cons_zero, List.set_cons_succ, i64_w, i32_w]; rfl)
          refine one_ (i := 6) (N := some 53) #[true, true, true, true, true, true, true, false, true, true, false, false, false] rfl rfl (one_of HT_.out (by kernel_rfl)) (by decide) (fun K hK => ?_)
          refine value_ (w1 := wa.alloc (.cells #[.string key] 9)) (v := .slice (some ⟨wa.heap.size, 0, none⟩) 1 1) (by rfl) rfl ?_ ?_
          · go_simp
          have hb := (Below.refl wa.heap.size wa).alloc (Nat.le_refl _) (.cells #[.string key] 9)
          have hN := blk_new wa (.cells #[.string key] 9)
          obtain ⟨k6, hk⟩ : ∃ n, wa.heap.size = n := ⟨_, rfl⟩
          obtain ⟨wb, hw⟩ : ∃ W, wa.alloc (.cells #[.string key] 9) = W := ⟨_, rfl⟩
          rw [hw] at hb hN ⊢
          rw [hk] at hN ⊢
          have HK6 := Aside0.mk hN
          have HR4' := Aside0.mk (Kd.R_below HR4.out hb)
          refine hK.out _ _ (hHeld.trans (hb.mono hHeld.size)) (fun hHeld => ?_)
          clear hK K hN hb hk hw
          clear HR4
          have HR4 := HR4'
          clear HR4'
          refine norm_ (a' := ?_) ?_ ?_; rotate_left; (show Act.put _ (some 53) _ = _; simp only [Act.put, List.setIfInBounds_toArray, List.set_cons_zero, List.set_cons_succ, i64_w, i32_w]; rfl)
          refine one_ (i := 7) (N := some 54) #[true, true, true, true, true, true, true, true, true, true, false, false, false] rfl rfl (one_of HT_.out (by kernel_rfl)) (by decide) (fun K hK => ?_)
          refine step_more Kd.string (w0 := WC) WC.heap.size (by rfl) (.tmp 51) (.tmp 53) 23 9 (.string ⟨#[]⟩) 16 (by rfl) Try.underlying23 info9 rfl (by decide) (by decide) (x.ks) ([key]) (some ⟨k6, 0, none⟩) (1) (1) _ (by rfl) (by rfl) (HR4.out) (key_C _ k6 _ key HK6.out) (rfl) (fun x cs h => h) hHeld hHeld.size (by have h1 := HS.out.1.2.1; simp only [List.length_cons, List.length_nil]; omega) ?_
          intro A7 n7 c7 wx hn hR hb
          have HR7 := Aside0.mk (And.intro hn hR)
          refine hK.out _ _ hb (fun hHeld => ?_)
          clear hK K hn hR hb
          refine norm_ (a' := ?_) ?_ ?_; rotate_left; (show Act.put _ (some 54) _ = _; simp only [Act.put, List.setIfInBounds_toArray, List.set_cons_zero, List.set_cons_succ, i64_w, i32_w]; rfl)
          refine one_ (i := 10) (N := some 57) #[true, true, true, true, true, true, true, true, true, true, true, false, false] rfl rfl (one_of HT_.out (by kernel_rfl)) (by decide) (fun K hK => ?_)
          refine step_more Kd.string (w0 := WC) WC.heap.size (by rfl) (.tmp 54) (.tmp 56) 23 9 (.string ⟨#[]⟩) 16 (by rfl) Try.underlying23 info9 rfl (by decide) (by decide) (x.ks ++ [key]) (y.ks) (y.A1) (y.ks.length) (y.c1) _ (by rfl) (by rfl) (HR7.out.2) (Kd.C_below HA.out.2.k (HC0.out.i.bel.trans (hHeld.mono HC0.out.i.bel.size))) (rfl) (fun x cs h => h) hHeld hHeld.size (by have h1 := HS.out.1.2.1; have h2 := HS.out.2.2.1; simp only [List.length_append, List.length_cons, List.length_nil]; omega) ?_
          intro A9 n9 c9 wy hn hR hb
          have HR9 := Aside0.mk (And.intro hn hR)
          refine hK.out _ _ hb (fun hHeld => ?_)
          clear hK K hn hR hb
          refine norm_ (a' := ?_) ?_ ?_; rotate_left; (show Act.put _ (some 57) _ = _; simp only [Act.put, List.setIfInBounds_toArray, List.set_cons_zero, List.set_cons_succ, i64_w, i32_w]; rfl)
          refine pure_ (i := 11) (N := some 58) (v := ?_) (a' := ?_) #[true, true, true, true, true, true, true, true, true, true, true, true, false] rfl rfl (any_of HT_.out (by kernel_rfl)) (fun _ _ _ h => h) (Or.inl ⟨by rfl, ?_⟩) ?_ ?_; rotate_left; (intro w'; go_simp; with_reducible rfl); rotate_left; (simp only [Act.put, List.setIfInBounds_toArray, List.set_cons_zero, List.set_cons_succ, i64_w, i32_w]; rfl)
          refine last_ (i := 12) (N := none) #[true, true, true, true, true, true, true, true, true, true, true, true, true] rfl rfl (one_of HT_.out (by kernel_rfl)) (by decide) (fun K hK => ?_)
          have HL := HC0.out.below hHeld
          have p0 : wy.cell? ⟨g, 1, none⟩ = some _ := blk_cell HL.b8 1
          have f0 : wy.frozen? ⟨g, 1, none⟩ = false := blk_frozen HL.b8 1
          refine skip_ (w1 := ?_) (by rfl) rfl ?_ ?_
          rotate_left
          · go_simp
            rfl
          clear p0 f0
          have HF := njj_set1 HL (Kd.R_lower HR9.out.2 HC0.out.i.bel.size) HR9.out.1
          refine hK.out _ _ ?_
          clear hK K
          refine done_ (done_of HT_.out (by kernel_rfl)) ?_
          go_wp2
          go_meet
          case rel => exact ⟨rfl, A9, c9, Aside0.mk HF⟩
        · refine value_ (w1 := wd.alloc (.cells #[.string key] 9)) (v := .slice (some ⟨wd.heap.size, 0, none⟩) 1 1) (by rfl) rfl ?_ ?_
          · go_simp
          have hb := (Below.refl wd.heap.size wd).alloc (Nat.le_refl _) (.cells #[.string key] 9)
          have hN := blk_new wd (.cells #[.string key] 9)
          obtain ⟨k6, hk⟩ : ∃ n, wd.heap.size = n := ⟨_, rfl⟩
          obtain ⟨wa, hw⟩ : ∃ W, wd.alloc (.cells #[.string key] 9) = W := ⟨_, rfl⟩
          rw [hw] at hb hN ⊢
          rw [hk] at hN ⊢
          have HK6 := Aside0.mk hN
          refine hK.out _ _ (hHeld.trans (hb.mono hHeld.size)) (fun hHeld => ?_)
          clear hK K hN hb hk hw
          refine norm_ (a' := ?_) ?_ ?_; rotate_left; (show Act.put _ (some 53) _ = _; simp only [Act.put, List.setIfInBounds_toArray, List.set_cons_zero, List.set_cons_succ, i64_w, i32_w]; rfl)
          refine one_ (i := 4) (N := some 51) #[true, true, true, true, true, true, true, false, true, true, false, false, false] rfl rfl (one_of HT_.out (by kernel_rfl)) (by decide) (fun K hK => ?_)
          refine step_new Kd.string (by rfl) (.tmp 48) (.tmp 50) 23 9 (.string ⟨#[]⟩) 16 (by rfl) Try.underlying23 info9 rfl (by decide) (by decide) x.ks x.A1 x.ks.length x.c1 (by rfl) (by rfl) (Kd.C_below HA.out.1.k (HC0.out.i.bel.trans (hHeld.mono HC0.out.i.bel.size))) rfl (fun x cs h => h) (by have h1 := HS.out.1.2.1; omega) ?_
          intro A4 c4 wb hR hb
          have HR4 := Aside0.mk (Kd.R_lower hR hHeld.size)
          have HK6' := Aside0.mk (blk_below HK6.out hb)
          refine hK.out _ _ (hHeld.trans (hb.mono hHeld.size)) (fun hHeld => ?_)
          clear hK K hR hb
          clear HK6
          have HK6 := HK6'
          clear HK6'
          refine norm_ (a' := ?_) ?_ ?_; rotate_left; (show Act.put _ (some 51) _ = _; simp only [Act.put, List.setIfInBounds_toArray, List.set_cons_zero, List.set_cons_succ, i64_w, i32_w]; rfl)
          refine one_ (i := 7) (N := some 54) #[true, true, true, true, true, true, true, true, true, true, false, false, false] rfl rfl (one_of HT_.out (by kernel_rfl)) (by decide) (fun K hK => ?_)
          refine step_more Kd.string (w0 := WC) WC.heap.size (by rfl) (.tmp 51) (.tmp 53) 23 9 (.string ⟨#[]⟩) 16 (by rfl) Try.underlying23 info9 rfl (by decide) (by decide) (x.ks) ([key]) (some ⟨k6, 0, none⟩) (1) (1) _ (by rfl) (by rfl) (HR4.out) (key_C _ k6 _ key HK6.out) (rfl) (fun x cs h => h) hHeld hHeld.size (by have h1 := HS.out.1.2.1; simp only [List.length_cons, List.length_nil]; omega) ?_
          intro A7 n7 c7 wx hn hR hb
          have HR7 := Aside0.mk (And.intro hn hR)
          refine hK.out _ _ hb (fun hHeld => ?_)
          clear hK K hn hR hb
          refine norm_ (a' := ?_) ?_ ?_; rotate_left; (show Act.put _ (some 54) _ = _; simp only [Act.put, List.setIfInBounds_toArray, List.set_cons_zero, List.set_cons_succ, i64_w, i32_w]; rfl)
          refine one_ (i := 10) (N := some 57) #[true, true, true, true, true, true, true, true, true, true, true, false, false] rfl rfl (one_of HT_.out (by kernel_rfl)) (by decide) (fun K hK => ?_)
          refine step_more Kd.string (w0 := WC) WC.heap.size (by rfl) (.tmp 54) (.tmp 56) 23 9 (.string ⟨#[]⟩) 16 (by rfl) Try.underlying23 info9 rfl (by decide) (by decide) (x.ks ++ [key]) (y.ks) (y.A1) (y.ks.length) (y.c1) _ (by rfl) (by rfl) (HR7.out.2) (Kd.C_below HA.out.2.k (HC0.out.i.bel.trans (hHeld.mono HC0.out.i.bel.size))) (rfl) (fun x cs h => h) hHeld hHeld.size (by have h1 := HS.out.1.2.1; have h2 := HS.out.2.2.1; simp only [List.length_append, List.length_cons, List.length_nil]; omega) ?_
          intro A9 n9 c9 wy hn hR hb
          have HR9 := Aside0.mk (And.intro hn hR)
          refine hK.out _ _ hb (fun hHeld => ?_)
          clear hK K hn hR hb
          refine norm_ (a' := ?_) ?_ ?_; rotate_left; (show Act.put _ (some 57) _ = _; simp only [Act.put, List.setIfInBounds_toArray, List.set_cons_zero, List.set_cons_succ, i64_w, i32_w]; rfl)
          refine pure_ (i := 11) (N := some 58) (v := ?_) (a' := ?_) #[true, true, true, true, true, true, true, true, true, true, true, true, false] rfl rfl (any_of HT_.out (by kernel_rfl)) (fun _ _ _ h => h) (Or.inl ⟨by rfl, ?_⟩) ?_ ?_; rotate_left; (intro w'; go_simp; with_reducible rfl); rotate_left; (simp only [Act.put, List.setIfInBounds_toArray, List.set_cons_zero, List.set_cons_succ, i64_w, i32_w]; rfl)
          refine last_ (i := 12) (N := none) #[true, true, true, true, true, true, true, true, true, true, true, true, true] rfl rfl (one_of HT_.out (by kernel_rfl)) (by decide) (fun K hK => ?_)
          have HL := HC0.out.below hHeld
          have p0 : wy.cell? ⟨g, 1, none⟩ = some _ := blk_cell HL.b8 1
          have f0 : wy.frozen? ⟨g, 1, none⟩ = false := blk_frozen HL.b8 1
          refine skip_ (w1 := ?_) (by rfl) rfl ?_ ?_
          rotate_left
          · go_simp
            rfl
          clear p0 f0
          have HF := njj_set1 HL (Kd.R_lower HR9.out.2 HC0.out.i.bel.size) HR9.out.1
          refine hK.out _ _ ?_
          clear hK K
          refine done_ (done_of HT_.out (by kernel_rfl)) ?_
          go_wp2
          go_meet
          case rel => exact ⟨rfl, A9, c9, Aside0.mk HF⟩
      case rest =>
        obtain ⟨rfl, A, c, HD0⟩ := hcut
        have HZD := HZ
        clear HZ HZV HC0
        obtain ⟨zz, hzz⟩ : ∃ zz : Nd, { z with A1 := A, c1 := c, ks := x.ks ++ [key] ++ y.ks } = zz := ⟨_, rfl⟩
        rw [hzz] at HD0
        have HZV := Aside0.mk (show True ∧ True ∧ zz.v2 = .slice none 0 0 from ⟨trivial, trivial, by rw [← hzz]; exact HZD.out.2.1⟩)
        have HZE := Aside0.mk hzz
        clear hzz
        go_upto_region 9 with (fail)
        refine start_ (n := 10) (S := fun W' => Below wc.heap.size wc W') (ds := [9]) #[false, false, false, false, false, false, false, false, false, false] (by kernel_rfl) rfl rfl (Below.refl wc.heap.size wc).drew (fun hHeld => ?_)
        refine with_tabW rJoin.tab9 rJoin.bits9 (fun HT_ HW_ => ?_)
        generalize wc.drew = wd at hHeld ⊢
        refine pure_ (i := 0) (N := some 59) (v := ?_) (a' := ?_) #[true, false, false, false, false, false, false, false, false, false] rfl rfl (any_of HT_.out (by kernel_rfl)) (fun _ _ _ h => h) (Or.inl ⟨by rfl, ?_⟩) ?_ ?_; rotate_left; (intro w'; go_simp; with_reducible rfl); rotate_left; (simp only [Act.put, List.setIfInBounds_toArray, List.set_cons_zero, List.set_cons_succ, i64_w, i32_w]; rfl)
        refine take_ (i := 1) (N := some 60) (v := ?_) (a' := ?_) #[true, true, false, false, false, false, false, false, false, false] rfl rfl (take_ofW HT_.out HW_.out (by kernel_rfl)) (fun _ _ _ h => h) (Or.inl ⟨by rfl, ?_⟩) hHeld ?_ ?_; rotate_left; (intro w' hS; have q0 : w'.cell? ⟨g, 2, none⟩ = some (.slice none 0 0) := (by rw [← HZV.out.2.2]; exact blk_cell (HD0.out.below hS).b8 2); go_simp; with_reducible rfl); rotate_left; (simp only [Act.put, List.setIfInBounds_toArray, List.set_cons_zero, List.set_cons_succ, i64_w, i32_w]; rfl)
        refine pure_ (i := 2) (N := some 61) (v := ?_) (a' := ?_) #[true, true, true, false, false, false, false, false, false, false] rfl rfl (any_of HT_.out (by kernel_rfl)) (fun _ _ _ h => h) (Or.inl ⟨by rfl, ?_⟩) ?_ ?_; rotate_left; (intro w'; go_simp; with_reducible rfl); rotate_left; (simp only [Act.put, List.setIfInBounds_toArray, List.set_cons_zero, List.set_cons_succ, i64_w, i32_w]; rfl)
        refine take_ (i := 3) (N := some 62) (v := ?_) (a' := ?_) #[true, true, true, true, false, false, false, false, false, false] rfl rfl (take_ofW HT_.out HW_.out (by kernel_rfl)) (fun _ _ _ h => h) (Or.inl ⟨by rfl, ?_⟩) hHeld ?_ ?_; rotate_left; (intro w' hS; have q0 : w'.cell? ⟨w.heap.size, 2, none⟩ = some x.v2 := blk_cell (HD0.out.below hS).i.b0 2; go_simp; with_reducible rfl); rotate_left; (simp only [Act.put, List.setIfInBounds_toArray, List.set_cons_zero, List.set_cons_succ, i64_w, i32_w]; rfl)
        refine pure_ (i := 5) (N := some 64) (v := ?_) (a' := ?_) #[true, true, true, true, false, true, false, false, false, false] rfl rfl (any_of HT_.out (by kernel_rfl)) (fun _ _ _ h => h) (Or.inl ⟨by rfl, ?_⟩) ?_ ?_; rotate_left; (intro w'; go_simp; with_reducible rfl); rotate_left; (simp only [Act.put, List.setIfInBounds_toArray, List.set_cons_zero, List.set_cons_succ, i64_w, i32_w]; rfl)
        refine take_ (i := 6) (N := some 65) (v := ?_) (a' := ?_) #[true, true, true, true, false, true, true, false, false, false] rfl rfl (take_ofW HT_.out HW_.out (by kernel_rfl)) (fun _ _ _ h => h) (Or.inl ⟨by rfl, ?_⟩) hHeld ?_ ?_; rotate_left; (intro w' hS; have q0 : w'.cell? ⟨w.heap.size + 1, 2, none⟩ = some y.v2 := blk_cell (HD0.out.below hS).i.b1 2; go_simp; with_reducible rfl); rotate_left; (simp only [Act.put, List.setIfInBounds_toArray, List.set_cons_zero, List.set_cons_succ, i64_w, i32_w]; rfl)
        refine one_ (i := 4) (N := some 63) #[true, true, true, true, true, true, true, false, false, false] rfl rfl (one_of HT_.out (by kernel_rfl)) (by decide) (fun K hK => ?_)
        refine step_more (Kd.int .u32) (w0 := wc) wc.heap.size (by rfl) (.tmp 60) (.tmp 62) 24 65 (.int .u32 0) 4 (by rfl) Try.underlying24 info65 rfl (by decide) (by decide) ([]) (x.kd) (x.A2) (x.kd.length) (x.c2) _ (by rfl) (by rfl) (Kd.R_nil _ _ _ _ _) (Kd.C_below HA.out.1.d (HD0.out.i.bel.trans (hHeld.mono HD0.out.i.bel.size))) (rfl) (fun x cs h => h) hHeld hHeld.size (by have h1 := HS.out.1.2.2.1; simp only [List.length_nil]; omega) ?_
        intro A4 n4 c4 wa hn hR hb
        have HR4 := Aside0.mk (And.intro hn hR)
        refine hK.out _ _ hb (fun hHeld => ?_)
        clear hK K hn hR hb
        refine norm_ (a' := ?_) ?_ ?_; rotate_left; (show Act.put _ (some 63) _ = _; simp only [Act.put, List.setIfInBounds_toArray, List.set_cons_zero, List.set_cons_succ, i64_w, i32_w]; rfl)
        refine one_ (i := 7) (N := some 66) #[true, true, true, true, true, true, true, true, false, false] rfl rfl (one_of HT_.out (by kernel_rfl)) (by decide) (fun K hK => ?_)
        refine step_more (Kd.int .u32) (w0 := wc) wc.heap.size (by rfl) (.tmp 63) (.tmp 65) 24 65 (.int .u32 0) 4 (by rfl) Try.underlying24 info65 rfl (by decide) (by decide) ([] ++ x.kd) (y.kd) (y.A2) (y.kd.length) (y.c2) _ (by rfl) (by rfl) (HR4.out.2) (Kd.C_below HA.out.2.d (HD0.out.i.bel.trans (hHeld.mono HD0.out.i.bel.size))) (rfl) (fun x cs h => h) hHeld hHeld.size (by have h1 := HS.out.1.2.2.1; have h2 := HS.out.2.2.2.1; simp only [List.nil_append]; omega) ?_
        intro A7 n7 c7 wb hn hR hb
        have HR7 := Aside0.mk (And.intro hn hR)
        refine hK.out _ _ hb (fun hHeld => ?_)
        clear hK K hn hR hb
        refine norm_ (a' := ?_) ?_ ?_; rotate_left; (show Act.put _ (some 66) _ = _; simp only [Act.put, List.setIfInBounds_toArray, List.set_cons_zero, List.set_cons_succ, i64_w, i32_w]; rfl)
        refine pure_ (i := 8) (N := some 67) (v := ?_) (a' := ?_) #[true, true, true, true, true, true, true, true, true, false] rfl rfl (any_of HT_.out (by kernel_rfl)) (fun _ _ _ h => h) (Or.inl ⟨by rfl, ?_⟩) ?_ ?_; rotate_left; (intro w'; go_simp; with_reducible rfl); rotate_left; (simp only [Act.put, List.setIfInBounds_toArray, List.set_cons_zero, List.set_cons_succ, i64_w, i32_w]; rfl)
        refine last_ (i := 9) (N := none) #[true, true, true, true, true, true, true, true, true, true] rfl rfl (one_of HT_.out (by kernel_rfl)) (by decide) (fun K hK => ?_)
        have HL := HD0.out.below hHeld
        have p0 : wb.cell? ⟨g, 2, none⟩ = some _ := blk_cell HL.b8 2
        have f0 : wb.frozen? ⟨g, 2, none⟩ = false := blk_frozen HL.b8 2
        refine skip_ (w1 := ?_) (by rfl) rfl ?_ ?_
        rotate_left
        · go_simp
          rfl
        clear p0 f0
        have HF := njj_set2 HL (Kd.R_lower HR7.out.2 HD0.out.i.bel.size) HR7.out.1
        refine hK.out _ _ ?_
        clear hK K
        refine done_ (done_of HT_.out (by kernel_rfl)) ?_
        go_wp2
        go_meet
        case rel =>
          refine ⟨rfl, _, Aside0.mk ⟨HF, ?_⟩⟩
          rw [← HZE.out]
          have h3 := HZD.out.2.2
          simp only [Prod.mk.injEq] at h3
          have e1 := (HS.out.1.2.2.2.2 (by rw [HN.out.1]; omega)).1
          have e2 := (HS.out.2.2.2.2.2 (by rw [HN.out.2]; omega)).1
          unfold joinL
          rw [isEmpty_len, HN.out.1, decide_eq_false (by omega)]
          simp [h3.1, e1, e2]
    all_goals
      obtain ⟨rfl, z', HJ⟩ := hcut
      have hcz : z'.cut := cut_join HJ.out.2 HCU.out.1 HCU.out.2.1 HCU.out.2.2 HRR.out.1 HRR.out.2
      have HR := Aside0.mk (fun W (hb : NjJ w x y z' g W) => rright_any z' W hb.oz.at_ hcz)
      have q0 : wc.cell? ⟨g, 0, none⟩ = some z'.v0 := blk_cell HJ.out.1.b8 0
      have q1 : wc.cell? ⟨g, 1, none⟩ = some z'.v1 := blk_cell HJ.out.1.b8 1
      have q2 : wc.cell? ⟨g, 2, none⟩ = some z'.v2 := blk_cell HJ.out.1.b8 2
      go_wp2_with fail
      refine (HR.out _ HJ.out.1).mono ?_
      rintro e w7 ⟨rfl, hb7⟩
      have HJ7 := Aside0.mk (And.intro (HJ.out.1.below hb7) HJ.out.2)
      clear q0 q1 q2 hb7 HJ HR r2 hcz
      have q0 : w7.cell? ⟨g, 0, none⟩ = some z'.v0 := blk_cell HJ7.out.1.b8 0
      have q1 : w7.cell? ⟨g, 1, none⟩ = some z'.v1 := blk_cell HJ7.out.1.b8 1
      have q2 : w7.cell? ⟨g, 2, none⟩ = some z'.v2 := blk_cell HJ7.out.1.b8 2
      have p0 : w7.cell? ⟨w.heap.size + 1 + 1, 0, none⟩ = some (.slice none 0 0) := blk_cell HJ7.out.1.i.b2 0
      have f0 : w7.frozen? ⟨w.heap.size + 1 + 1, 0, none⟩ = false := blk_frozen HJ7.out.1.i.b2 0
      have p1 : w7.cell? ⟨w.heap.size + 1 + 1, 1, none⟩ = some (.slice none 0 0) := blk_cell HJ7.out.1.i.b2 1
      have f1 : w7.frozen? ⟨w.heap.size + 1 + 1, 1, none⟩ = false := blk_frozen HJ7.out.1.i.b2 1
      have p2 : w7.cell? ⟨w.heap.size + 1 + 1, 2, none⟩ = some (.slice none 0 0) := blk_cell HJ7.out.1.i.b2 2
      have f2 : w7.frozen? ⟨w.heap.size + 1 + 1, 2, none⟩ = false := blk_frozen HJ7.out.1.i.b2 2
      have hem : x.kd.isEmpty = y.kd.isEmpty := by
        rw [isEmpty_len, isEmpty_len, HN.out.1, HN.out.2]
        rcases HNN.out with ⟨h0, h1⟩ | ⟨h0, h1⟩
        · rw [h0, h1]
        · rw [decide_eq_false (by omega), decide_eq_false (by omega)]
      have hjr : rightB (joinL x y key).1 (joinL x y key).2.1 (joinL x y key).2.2 = z'.right := by rw [← HJ7.out.2]; rfl
      cases hzr : z'.right with
      | false =>
        go_wp2
        refine bodyPost_ret (results_list (rs := [.cell 6 26, .tmp 7]) rfl (by simp) (.cell (w.heap.size + 1 + 1) 26 #[.slice none 0 0, .slice none 0 0, .slice none 0 0] (0, 0) _ rfl (blk_set3 HJ7.out.1.i.b2) Try.underlying26 rfl (by kernel_rfl) (.tmp .nil))) rfl ?_
        refine ⟨Nd.none_, 60, rfl, none_own _ _, ?_, below_set3 HJ7.out.1.i.bel (by omega)⟩
        unfold JoinIs joinR
        rw [if_neg (by rw [hjr, hzr]; simp)]
        rfl
      | true =>
        go_wp2
        refine bodyPost_ret (results_list (rs := [.cell 6 26, .tmp 7]) rfl (by simp) (.cell (w.heap.size + 1 + 1) 26 #[z'.v0, z'.v1, z'.v2] (0, 0) _ rfl (blk_set3 HJ7.out.1.i.b2) Try.underlying26 rfl (by kernel_rfl) (.tmp .nil))) rfl ?_
        refine ⟨z', 0, rfl, HJ7.out.1.oz.set3 HJ7.out.1.i.b2, ?_, below_set3 HJ7.out.1.i.bel (by omega)⟩
        unfold JoinIs joinR
        rw [if_pos ⟨HRR.out.1, HRR.out.2, hem, by rw [hjr, hzr]⟩, ← HJ7.out.2]
end Go.Proofs.Ytejempihaknplaa.G
