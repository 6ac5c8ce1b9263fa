/- package node: cut by hand. -/
import Derived.Test.YtejempihaknplaaNdN
namespace Go.Proofs.Ytejempihaknplaa.G
open Go.RowKit Go.Proofs.YtejempihaknplaaW.PrintWords Go.Proofs.YtejempihaknplaaW.PrintLast Go.Proofs.YtejempihaknplaaW.PrintMore
set_option linter.unusedVariables false

theorem clone_p (l : List S39) (h : l.length ≤ 1000000) : slices_Clone_Pair.f l = some l := by unfold slices_Clone_Pair.f; rw [if_pos (by omega)]
theorem clone_k (l : List ByteArray) (h : l.length ≤ 1000000) : slices_Clone_string_string.f l = some l := by unfold slices_Clone_string_string.f; rw [if_pos (by omega)]
theorem clone_d (l : List Int) (h : l.length ≤ 1000000) : slices_Clone_uint32_uint32.f l = some l := by unfold slices_Clone_uint32_uint32.f; rw [if_pos (by omega)]

/-- A row's first elements, cloned. -/
theorem cloneP_any (A : Option Addr) (n c : Nat) (l : List S39) (w : World) (h : Kd.C k39 w A l.length l) (hn : l.length = n) (hc : n ≤ c) (hs : n ≤ 1000000) :
    Calls Try.prog 48 #[.slice A n c] w fun e w' => ∃ A' c', e = .returned (.slice A' n c') ∧ Kd.R k39 39 w' w.heap.size (fun _ => True) (.slice A' n c') l ∧ Below w.heap.size w w' := by
  subst hn
  refine (slices_Clone_Pair.calls A c l l w h hc (clone_p l hs)).mono ?_
  rintro e w' ⟨v, rfl, hR, hb⟩
  obtain ⟨A', c', rfl, h1, h2⟩ := Kd.R_reads hR
  exact ⟨A', c', rfl, hR, hb⟩
theorem cloneK_any (A : Option Addr) (n c : Nat) (l : List ByteArray) (w : World) (h : Kd.C Kd.string w A l.length l) (hn : l.length = n) (hc : n ≤ c) (hs : n ≤ 1000000) :
    Calls Try.prog 69 #[.slice A n c] w fun e w' => ∃ A' c', e = .returned (.slice A' n c') ∧ Kd.R Kd.string 9 w' w.heap.size (fun _ => True) (.slice A' n c') l ∧ Below w.heap.size w w' := by
  subst hn
  refine (slices_Clone_string_string.calls A c l l w h hc (clone_k l hs)).mono ?_
  rintro e w' ⟨v, rfl, hR, hb⟩
  obtain ⟨A', c', rfl, h1, h2⟩ := Kd.R_reads hR
  exact ⟨A', c', rfl, hR, hb⟩
theorem cloneD_any (A : Option Addr) (n c : Nat) (l : List Int) (w : World) (h : Kd.C (Kd.int .u32) w A l.length l) (hn : l.length = n) (hc : n ≤ c) (hs : n ≤ 1000000) :
    Calls Try.prog 71 #[.slice A n c] w fun e w' => ∃ A' c', e = .returned (.slice A' n c') ∧ Kd.R (Kd.int .u32) 65 w' w.heap.size (fun _ => True) (.slice A' n c') l ∧ Below w.heap.size w w' := by
  subst hn
  refine (slices_Clone_uint32_uint32.calls A c l l w h hc (clone_d l hs)).mono ?_
  rintro e w' ⟨v, rfl, hR, hb⟩
  obtain ⟨A', c', rfl, h1, h2⟩ := Kd.R_reads hR
  exact ⟨A', c', rfl, hR, hb⟩

theorem R_here {α : Type} {d : Kd α} {e base n c : Nat} {w : World} {ok : Nat → Prop} {A : Option Addr} {l : List α} (h : Kd.R d e w base ok (.slice A n c) l) : n = l.length ∧ n ≤ c ∧ Kd.C d w A l.length l := by
  obtain ⟨A', c', he, h1, h2⟩ := Kd.R_reads h
  cases he
  exact ⟨rfl, h1, h2⟩
theorem R_set7 {α : Type} {d : Kd α} {e base g : Nat} {W : World} {v u0 u1 u2 u3 u4 u5 u6 : Value} {l : List α} (h : Kd.R d e W base (fun _ => True) v l) (hg : g < base) :
    Kd.R d e (((((((W.setCell ⟨g, 0, none⟩ u0).setCell ⟨g, 1, none⟩ u1).setCell ⟨g, 2, none⟩ u2).setCell ⟨g, 3, none⟩ u3).setCell ⟨g, 4, none⟩ u4).setCell ⟨g, 5, none⟩ u5).setCell ⟨g, 6, none⟩ u6) base (fun _ => True) v l := by
  have h1 : Kd.R d e W base (fun k => base ≤ k) v l := Kd.R_mono (Kd.R_bound h) (fun k hk => hk.2.1)
  refine Kd.R_mono (Kd.R_step h1 fun k hk _ => ?_) (fun _ _ => trivial)
  rw [heap_setCell_other, heap_setCell_other, heap_setCell_other, heap_setCell_other, heap_setCell_other, heap_setCell_other, heap_setCell_other]
  all_goals (show k ≠ g; omega)
theorem blk_set7 {W : World} {g : Nat} {t : TypeId} {z0 z1 z2 z3 z4 z5 z6 u0 u1 u2 u3 u4 u5 u6 : Value} (h : W.heap[g]? = some (.cells #[z0, z1, z2, z3, z4, z5, z6] t (0, 0))) :
    (((((((W.setCell ⟨g, 0, none⟩ u0).setCell ⟨g, 1, none⟩ u1).setCell ⟨g, 2, none⟩ u2).setCell ⟨g, 3, none⟩ u3).setCell ⟨g, 4, none⟩ u4).setCell ⟨g, 5, none⟩ u5).setCell ⟨g, 6, none⟩ u6).heap[g]? = some (.cells #[u0, u1, u2, u3, u4, u5, u6] t (0, 0)) := by
  refine blk_put (cs := #[u0, u1, u2, u3, u4, u5, z6]) ?_ 6 _ rfl
  refine blk_put (cs := #[u0, u1, u2, u3, u4, z5, z6]) ?_ 5 _ rfl
  refine blk_put (cs := #[u0, u1, u2, u3, z4, z5, z6]) ?_ 4 _ rfl
  refine blk_put (cs := #[u0, u1, u2, z3, z4, z5, z6]) ?_ 3 _ rfl
  refine blk_put (cs := #[u0, u1, z2, z3, z4, z5, z6]) ?_ 2 _ rfl
  refine blk_put (cs := #[u0, z1, z2, z3, z4, z5, z6]) ?_ 1 _ rfl
  exact blk_put h 0 _ rfl
theorem below_set7 {B g : Nat} {w W : World} {u0 u1 u2 u3 u4 u5 u6 : Value} (h : Below B w W) (hg : B ≤ g) :
    Below B w (((((((W.setCell ⟨g, 0, none⟩ u0).setCell ⟨g, 1, none⟩ u1).setCell ⟨g, 2, none⟩ u2).setCell ⟨g, 3, none⟩ u3).setCell ⟨g, 4, none⟩ u4).setCell ⟨g, 5, none⟩ u5).setCell ⟨g, 6, none⟩ u6) :=
  ((((((h.setCell (by exact hg) _).setCell (by exact hg) _).setCell (by exact hg) _).setCell (by exact hg) _).setCell (by exact hg) _).setCell (by exact hg) _).setCell (by exact hg) _
theorem R_set3 {α : Type} {d : Kd α} {e base g tt : Nat} {W : World} {ok : Nat → Prop} {v u0 u1 u2 : Value} {cs : Array Value} {l : List α} (h : Kd.R d e W base ok v l) (hb : W.heap[g]? = some (.cells cs tt (0, 0))) (ht : ∀ q, q ∈ e :: d.E → q ≠ tt) :
    Kd.R d e (((W.setCell ⟨g, 0, none⟩ u0).setCell ⟨g, 1, none⟩ u1).setCell ⟨g, 2, none⟩ u2) base ok v l :=
  Kd.R_set (Kd.R_set (Kd.R_set h hb ht 0 u0) (blk_set hb 0 u0) ht 1 u1) (blk_set (blk_set hb 0 u0) 1 u1) ht 2 u2
theorem R_sett7 {α : Type} {d : Kd α} {e base g tt : Nat} {W : World} {ok : Nat → Prop} {v u0 u1 u2 u3 u4 u5 u6 : Value} {cs : Array Value} {l : List α} (h : Kd.R d e W base ok v l) (hb : W.heap[g]? = some (.cells cs tt (0, 0))) (ht : ∀ q, q ∈ e :: d.E → q ≠ tt) :
    Kd.R d e (((((((W.setCell ⟨g, 0, none⟩ u0).setCell ⟨g, 1, none⟩ u1).setCell ⟨g, 2, none⟩ u2).setCell ⟨g, 3, none⟩ u3).setCell ⟨g, 4, none⟩ u4).setCell ⟨g, 5, none⟩ u5).setCell ⟨g, 6, none⟩ u6) base ok v l :=
  Kd.R_set (Kd.R_set (Kd.R_set (Kd.R_set (R_set3 h hb ht) (blk_set (blk_set (blk_set hb 0 u0) 1 u1) 2 u2) ht 3 u3) (blk_set (blk_set (blk_set (blk_set hb 0 u0) 1 u1) 2 u2) 3 u3) ht 4 u4) (blk_set (blk_set (blk_set (blk_set (blk_set hb 0 u0) 1 u1) 2 u2) 3 u3) 4 u4) ht 5 u5) (blk_set (blk_set (blk_set (blk_set (blk_set (blk_set hb 0 u0) 1 u1) 2 u2) 3 u3) 4 u4) 5 u5) ht 6 u6
theorem blk_set3 {W : World} {g : Nat} {t : TypeId} {z0 z1 z2 u0 u1 u2 : Value} (h : W.heap[g]? = some (.cells #[z0, z1, z2] t (0, 0))) : (((W.setCell ⟨g, 0, none⟩ u0).setCell ⟨g, 1, none⟩ u1).setCell ⟨g, 2, none⟩ u2).heap[g]? = some (.cells #[u0, u1, u2] t (0, 0)) := by
  refine blk_put (cs := #[u0, u1, z2]) ?_ 2 _ rfl
  refine blk_put (cs := #[u0, z1, z2]) ?_ 1 _ rfl
  exact blk_put h 0 _ rfl
theorem blk_far3 {W : World} {g k : Nat} {o : Obj} {u0 u1 u2 : Value} (h : W.heap[k]? = some o) (hn : k ≠ g) : (((W.setCell ⟨g, 0, none⟩ u0).setCell ⟨g, 1, none⟩ u1).setCell ⟨g, 2, none⟩ u2).heap[k]? = some o := by
  rw [heap_setCell_other, heap_setCell_other, heap_setCell_other]
  · exact h
  all_goals exact hn
theorem below_set3 {B g : Nat} {w W : World} {u0 u1 u2 : Value} (h : Below B w W) (hg : B ≤ g) : Below B w (((W.setCell ⟨g, 0, none⟩ u0).setCell ⟨g, 1, none⟩ u1).setCell ⟨g, 2, none⟩ u2) :=
  ((h.setCell (by exact hg) _).setCell (by exact hg) _).setCell (by exact hg) _
theorem cs3 {W : World} {g : Nat} {a : Addr} {v u0 u1 u2 : Value} (h : W.cell? a = some v) (hn : a.block ≠ g) :
    (((W.setCell ⟨g, 0, none⟩ u0).setCell ⟨g, 1, none⟩ u1).setCell ⟨g, 2, none⟩ u2).cell? a = some v := by
  rw [← h]
  refine World.cell?_of_block ?_
  rw [heap_setCell_other, heap_setCell_other, heap_setCell_other]
  all_goals exact hn
theorem cs7 {W : World} {g : Nat} {a : Addr} {v u0 u1 u2 u3 u4 u5 u6 : Value} (h : W.cell? a = some v) (hn : a.block ≠ g) :
    (((((((W.setCell ⟨g, 0, none⟩ u0).setCell ⟨g, 1, none⟩ u1).setCell ⟨g, 2, none⟩ u2).setCell ⟨g, 3, none⟩ u3).setCell ⟨g, 4, none⟩ u4).setCell ⟨g, 5, none⟩ u5).setCell ⟨g, 6, none⟩ u6).cell? a = some v := by
  rw [← h]
  refine World.cell?_of_block ?_
  rw [heap_setCell_other, heap_setCell_other, heap_setCell_other, heap_setCell_other, heap_setCell_other, heap_setCell_other, heap_setCell_other]
  all_goals exact hn

set_option maxRecDepth 100000 in
set_option maxHeartbeats 4000000 in
theorem ncut_leaf (x : Nd) (m : Nat) (w : World) (h : x.At w) (hk : x.kd.length = 0) (h1 : 1 ≤ m) (h2 : m < x.ps.length) (h3 : x.ps.length ≤ 1000000) :
    Calls Try.prog 50 #[.agg #[x.v0, x.v1, x.v2], .int .i64 m] w fun e w' => ∃ (A : Option Addr) (c : Nat) (A' : Option Addr) (c' : Nat), e = .returned (.agg #[.slice A m c, .slice none 0 0, .slice none 0 0, .slice A' (x.ps.length - m) c', .slice none 0 0, .slice none 0 0, .string (x.ps[m]'h2).f0]) ∧
      Kd.R k39 39 w' w.heap.size (fun _ => True) (.slice A m c) (x.ps.take m) ∧ Kd.R k39 39 w' w.heap.size (fun _ => True) (.slice A' (x.ps.length - m) c') (x.ps.drop m) ∧ Below w.heap.size w w' := by
  obtain ⟨ad, hA, x0, x1⟩ := at_T39 h.p (m : Int) (by omega) (by omega)
  rw [rdT_nat x.ps m h2, Int.toNat_natCast] at x0 x1
  have hc1 := fun W (hb : Below w.heap.size w W) => cloneP_any x.A0 m x.c0 (x.ps.take m) W (Kd.C_below (Kd.C_take h.p (by omega)) hb) (by rw [List.length_take]; omega) (by have := h.pc; omega) (by omega)
  have hc2 := fun W (hb : Below w.heap.size w W) => cloneP_any (if x.c0 = m then x.A0 else x.A0.map (·.add (m * 2))) (x.ps.length - m) (x.c0 - m) (x.ps.drop m) W (Kd.C_below (Kd.C_drop h.p (by omega) h.pc) hb) (by rw [List.length_drop]) (by have := h.pc; omega) (by omega)
  rw [if_neg (by have := h.pc; omega), hA] at hc2
  rw [hA] at hc1
  have hpc := h.pc
  obtain ⟨A0, c0, ps, A1, c1, ks, A2, c2, kd⟩ := x
  dsimp only [Nd.v0, Nd.v1, Nd.v2] at *
  subst hA
  obtain ⟨key, hkey⟩ : ∃ key, ps[m].f0 = key := ⟨_, rfl⟩
  rw [hkey] at x0 ⊢
  obtain ⟨np, hnp⟩ : ∃ np, ps.length = np := ⟨_, rfl⟩
  rw [hnp] at h2 h3 hc2 hpc ⊢
  have HC1 := Aside0.mk hc1
  have HC2 := Aside0.mk hc2
  have e0 : (kd.length : Int) = 0 := by omega
  have i0 : (0 : Int) ≤ (m : Int) := by omega
  have i1 : (m : Int) < (np : Int) := by omega
  have i2 : (m : Int) ≤ (c0 : Int) := by omega
  have i3 : (np : Int) ≤ (c0 : Int) := by omega
  have i4 : ¬ c0 = m := by omega
  have i5 : (m : Int) ≤ (np : Int) := by omega
  have i6 : ¬ (c0 : Int) = (m : Int) := by omega
  have HX := Aside0.mk (And.intro x0 (World.block_lt_of_cell? w _ x0))
  clear hc1 hc2 h hkey x1 hnp
  go_enter Try.func50, Try.ntmps50
  go_wp2_with fail
  obtain ⟨W1, hW1⟩ : ∃ W1, (w.alloc (.cells #[.slice (some ad) np c0, .slice A1 ks.length c1, .slice A2 0 c2] 26)).alloc (.cells #[.slice none 0 0, .slice none 0 0, .slice none 0 0, .slice none 0 0, .slice none 0 0, .slice none 0 0, .string ⟨#[]⟩] 81) = W1 := ⟨_, rfl⟩
  have k0 : W1.heap[w.heap.size]? = some (.cells #[.slice (some ad) np c0, .slice A1 ks.length c1, .slice A2 0 c2] 26 (0, 0)) := by rw [← hW1]; exact blk_alloc (blk_new w _) _
  have k1 : W1.heap[w.heap.size + 1]? = some (.cells #[.slice none 0 0, .slice none 0 0, .slice none 0 0, .slice none 0 0, .slice none 0 0, .slice none 0 0, .string ⟨#[]⟩] 81 (0, 0)) := by
    rw [← hW1]
    have := blk_new (w.alloc (.cells #[.slice (some ad) np c0, .slice A1 ks.length c1, .slice A2 0 c2] 26)) (.cells #[.slice none 0 0, .slice none 0 0, .slice none 0 0, .slice none 0 0, .slice none 0 0, .slice none 0 0, .string ⟨#[]⟩] 81)
    rwa [World.size_alloc] at this
  have b1 : Below w.heap.size w W1 := by rw [← hW1]; exact ((Below.refl w.heap.size w).alloc (Nat.le_refl _) _).alloc (by simp) _
  rw [hW1]
  have HB := Aside0.mk b1
  have K := Aside0.mk (And.intro k0 k1)
  have q0 : W1.cell? ⟨w.heap.size, 0, none⟩ = some (.slice (some ad) np c0) := blk_cell k0 0
  have q1 : W1.cell? (ad.add (m * 2)) = some (.string key) := (b1.cell HX.out.2).trans HX.out.1
  have HS : Aside0 (w.heap.size + 2 ≤ W1.heap.size) := Aside0.mk (by rw [← hW1]; simp)
  have HN : Aside0 ((⟨w.heap.size, 0, none⟩ : Addr).block ≠ w.heap.size + 1 ∧ (ad.add (m * 2)).block ≠ w.heap.size + 1) := Aside0.mk ⟨by dsimp only; omega, by have := HX.out.2; omega⟩
  clear hW1 k0 k1 b1
  go_region_held3 (fun w' => w'.cell? ⟨w.heap.size, 0, none⟩ = some (.slice (some ad) np c0) ∧ w'.cell? (ad.add (m * 2)) = some (.string key))
    (first | (with_reducible exact Q1.out) | (with_reducible exact Q2.out) | (with_reducible exact ⟨cs7 Q2.out.1 HN.out.1, cs7 Q2.out.2 HN.out.2⟩) | go_keep)
    (first
      | (go_at_call 48; have HB1' := HB1; refine (HC2.out _ HB1'.out).mono ?_; rintro e w3 ⟨A', c', rfl, hR', hb3⟩; have HB2 := Aside0.mk (HB1'.out.trans (hb3.mono HB1'.out.size)); have K2 := Aside0.mk (And.intro (blk_below K1.out.1 hb3) (blk_below K1.out.2 hb3)); have R2 := Aside0.mk (And.intro hR' (Kd.R_below R1.out hb3)); have S2 := Aside0.mk HB1'.out.size; have Q2 := Aside0.mk (show w3.cell? ⟨w.heap.size, 0, none⟩ = some (.slice (some ad) np c0) ∧ w3.cell? (ad.add (m * 2)) = some (.string key) from ⟨blk_cell K2.out.1 0, (HB2.out.cell HX.out.2).trans HX.out.1⟩)
         have p0 := blk_cell K2.out.2 0; have p1 := blk_cell K2.out.2 1; have p2 := blk_cell K2.out.2 2; have p3 := blk_cell K2.out.2 3; have p4 := blk_cell K2.out.2 4; have p5 := blk_cell K2.out.2 5; have p6 := blk_cell K2.out.2 6
         have f0 := blk_frozen K2.out.2 0; have f1 := blk_frozen K2.out.2 1; have f2 := blk_frozen K2.out.2 2; have f3 := blk_frozen K2.out.2 3; have f4 := blk_frozen K2.out.2 4; have f5 := blk_frozen K2.out.2 5; have f6 := blk_frozen K2.out.2 6
         clear hb3 hR')
      | (go_at_call 48; refine (HC1.out _ HB.out.drew).mono ?_; rintro e w2 ⟨A, c, rfl, hR, hb2⟩; have HB1 := Aside0.mk (HB.out.drew.trans (hb2.mono HB.out.size)); have G2 := Aside0.mk (show W1.heap.size ≤ w2.heap.size from hb2.size); have K1 := Aside0.mk (And.intro (blk_below (blk_drew K.out.1) hb2) (blk_below (blk_drew K.out.2) hb2)); have R1 := Aside0.mk hR; have Q1 := Aside0.mk (show w2.cell? ⟨w.heap.size, 0, none⟩ = some (.slice (some ad) np c0) ∧ w2.cell? (ad.add (m * 2)) = some (.string key) from ⟨blk_cell K1.out.1 0, (HB1.out.cell HX.out.2).trans HX.out.1⟩); clear hb2 hR))
  all_goals
    go_wp2
    have hs1 : W1.drew.heap.size = W1.heap.size := rfl
    have hs2 : w.heap.size + 1 < w2.heap.size := by have := HS.out; have := G2.out; omega
    have r1 := (R_set7 (g := w.heap.size + 1) (u0 := .slice A m c) (u1 := .slice none 0 0) (u2 := .slice none 0 0) (u3 := .slice A' (np - m) c') (u4 := .slice none 0 0) (u5 := .slice none 0 0) (u6 := .string key) R2.out.2 (by have := HS.out; omega))
    have r2 := (R_set7 (g := w.heap.size + 1) (u0 := .slice A m c) (u1 := .slice none 0 0) (u2 := .slice none 0 0) (u3 := .slice A' (np - m) c') (u4 := .slice none 0 0) (u5 := .slice none 0 0) (u6 := .string key) R2.out.1 hs2)
    refine bodyPost_ret (results_cell_row rfl _ _ (w.heap.size + 1) 81 #[.slice A m c, .slice none 0 0, .slice none 0 0, .slice A' (np - m) c', .slice none 0 0, .slice none 0 0, .string key] (0, 0) _ rfl (blk_set7 K2.out.2) Try.underlying81 rfl (by kernel_rfl)) rfl ?_
    exact ⟨A, c, A', c', rfl, Kd.R_lower r1 (by have := HS.out; omega), Kd.R_lower r2 (by omega), below_set7 HB2.out (by omega)⟩

set_option maxRecDepth 100000 in
set_option maxHeartbeats 8000000 in
theorem ncut_branch (x : Nd) (q : Nat) (w : World) (h : x.At w) (hk : x.kd.length = x.ks.length + 1) (h2 : q + 1 < x.ks.length) (h3 : x.ks.length ≤ 100000) :
    Calls Try.prog 50 #[.agg #[x.v0, x.v1, x.v2], .int .i64 ((q : Int) + 1)] w fun e w' => ∃ (A1 : Option Addr) (c1 : Nat) (A2 : Option Addr) (c2 : Nat) (B1 : Option Addr) (d1 : Nat) (B2 : Option Addr) (d2 : Nat),
      e = .returned (.agg #[.slice none 0 0, .slice A1 q c1, .slice A2 (q + 1) c2, .slice none 0 0, .slice B1 (x.ks.length - (q + 1)) d1, .slice B2 (x.ks.length - q) d2, .string (x.ks[q]'(by omega))]) ∧
      Kd.R Kd.string 9 w' w.heap.size (fun _ => True) (.slice A1 q c1) (x.ks.take q) ∧ Kd.R (Kd.int .u32) 65 w' w.heap.size (fun _ => True) (.slice A2 (q + 1) c2) (x.kd.take (q + 1)) ∧
      Kd.R Kd.string 9 w' w.heap.size (fun _ => True) (.slice B1 (x.ks.length - (q + 1)) d1) (x.ks.drop (q + 1)) ∧ Kd.R (Kd.int .u32) 65 w' w.heap.size (fun _ => True) (.slice B2 (x.ks.length - q) d2) (x.kd.drop (q + 1)) ∧ Below w.heap.size w w' := by
  obtain ⟨a1, hA1, x0⟩ := Kd.at_string h.k (q : Int) (by omega) (by omega)
  rw [rdOf_nat x.ks q (by omega), Int.toNat_natCast] at x0
  obtain ⟨a2, hA2, _⟩ := Kd.at_int h.d (q : Int) (by omega) (by omega)
  have hkc := h.kc
  have hdc := h.dc
  have hc1 := fun W (hb : Below w.heap.size w W) => cloneK_any x.A1 q x.c1 (x.ks.take q) W (Kd.C_below (Kd.C_take h.k (by omega)) hb) (by rw [List.length_take]; omega) (by omega) (by omega)
  have hc2 := fun W (hb : Below w.heap.size w W) => cloneD_any x.A2 (q + 1) x.c2 (x.kd.take (q + 1)) W (Kd.C_below (Kd.C_take h.d (by omega)) hb) (by rw [List.length_take]; omega) (by omega) (by omega)
  have hc3 := fun W (hb : Below w.heap.size w W) => cloneK_any (if x.c1 = q + 1 then x.A1 else x.A1.map (·.add ((q + 1) * 1))) (x.ks.length - (q + 1)) (x.c1 - (q + 1)) (x.ks.drop (q + 1)) W (Kd.C_below (Kd.C_drop h.k (by omega) hkc) hb) (by rw [List.length_drop]) (by omega) (by omega)
  have hc4 := fun W (hb : Below w.heap.size w W) => cloneD_any (if x.c2 = q + 1 then x.A2 else x.A2.map (·.add ((q + 1) * 1))) (x.ks.length - q) (x.c2 - (q + 1)) (x.kd.drop (q + 1)) W (Kd.C_below (Kd.C_drop h.d (by omega) hdc) hb) (by rw [List.length_drop]; omega) (by omega) (by omega)
  rw [if_neg (by omega), hA1, Nat.mul_one] at hc3
  rw [if_neg (by omega), hA2, Nat.mul_one] at hc4
  rw [hA1] at hc1
  rw [hA2] at hc2
  obtain ⟨A0, c0, ps, A1, c1, ks, A2, c2, kd⟩ := x
  dsimp only [Nd.v0, Nd.v1, Nd.v2] at *
  subst hA1 hA2
  change q + 1 < ks.length at h2
  obtain ⟨key, hkey⟩ : ∃ key, ks[q]'(by omega) = key := ⟨_, rfl⟩
  rw [hkey] at x0 ⊢
  have HX := Aside0.mk (And.intro x0 (World.block_lt_of_cell? w _ x0))
  obtain ⟨nk, hnk⟩ : ∃ nk, ks.length = nk := ⟨_, rfl⟩
  rw [hnk] at h2 h3 hk hkc hc3 hc4 ⊢
  rw [hk] at hdc ⊢
  have HC1 := Aside0.mk hc1
  have HC2 := Aside0.mk hc2
  have HC3 := Aside0.mk hc3
  have HC4 := Aside0.mk hc4
  have i0 : (0 : Int) ≤ (q : Int) := by omega
  have i1 : (q : Int) + 1 < (nk : Int) := by omega
  have i2 : (nk : Int) ≤ (c1 : Int) := by omega
  have i3 : (nk : Int) + 1 ≤ (c2 : Int) := by omega
  have i4 : ¬ c1 = q + 1 := by omega
  have i5 : ¬ c2 = q + 1 := by omega
  have i6 : ¬ (c1 : Int) = (q : Int) + 1 := by omega
  have i7 : ¬ (c2 : Int) = (q : Int) + 1 := by omega
  have i10 : (0 : Int) ≤ (q : Int) + 1 := by omega
  have e0 : ¬ (nk : Int) + 1 = 0 := by omega
  have i8 : (q : Int) ≤ (c1 : Int) := by omega
  have i9 : (q : Int) + 1 ≤ (c2 : Int) := by omega
  have j1 : (q : Int) + 1 ≤ (nk : Int) := by omega
  have j2 : (q : Int) + 1 ≤ (nk : Int) + 1 := by omega
  have j3 : (q : Int) < (nk : Int) := by omega
  have wr2 : IntKind.i64.wrap (q : Int) = (q : Int) := IntWalk.i64_in _ (by omega)
  have wr1 : IntKind.i64.wrap ((q : Int) + 1 - 1) = (q : Int) := by rw [show (q : Int) + 1 - 1 = q by omega]; exact IntWalk.i64_in _ (by omega)
  clear hc1 hc2 hc3 hc4 h hkey hnk hk x0
  go_enter Try.func50, Try.ntmps50
  go_wp2_with fail
  obtain ⟨W1, hW1⟩ : ∃ W1, (w.alloc (.cells #[.slice A0 ps.length c0, .slice (some a1) nk c1, .slice (some a2) (nk + 1) c2] 26)).alloc (.cells #[.slice none 0 0, .slice none 0 0, .slice none 0 0, .slice none 0 0, .slice none 0 0, .slice none 0 0, .string ⟨#[]⟩] 81) = W1 := ⟨_, rfl⟩
  have k0 : W1.heap[w.heap.size]? = some (.cells #[.slice A0 ps.length c0, .slice (some a1) nk c1, .slice (some a2) (nk + 1) c2] 26 (0, 0)) := by rw [← hW1]; exact blk_alloc (blk_new w _) _
  have k1 : W1.heap[w.heap.size + 1]? = some (.cells #[.slice none 0 0, .slice none 0 0, .slice none 0 0, .slice none 0 0, .slice none 0 0, .slice none 0 0, .string ⟨#[]⟩] 81 (0, 0)) := by
    rw [← hW1]
    have := blk_new (w.alloc (.cells #[.slice A0 ps.length c0, .slice (some a1) nk c1, .slice (some a2) (nk + 1) c2] 26)) (.cells #[.slice none 0 0, .slice none 0 0, .slice none 0 0, .slice none 0 0, .slice none 0 0, .slice none 0 0, .string ⟨#[]⟩] 81)
    rwa [World.size_alloc] at this
  have b1 : Below w.heap.size w W1 := by rw [← hW1]; exact ((Below.refl w.heap.size w).alloc (Nat.le_refl _) _).alloc (by simp) _
  have HS : Aside0 (w.heap.size + 2 ≤ W1.heap.size) := Aside0.mk (by rw [← hW1]; simp)
  rw [hW1]
  have HB := Aside0.mk b1
  have K := Aside0.mk (And.intro k0 k1)
  have q1 : W1.cell? ⟨w.heap.size, 1, none⟩ = some (.slice (some a1) nk c1) := blk_cell k0 1
  have q2 : W1.cell? ⟨w.heap.size, 2, none⟩ = some (.slice (some a2) (nk + 1) c2) := blk_cell k0 2
  clear hW1 k0 k1 b1
  go_region_held3 (fun w' => w'.cell? ⟨w.heap.size, 1, none⟩ = some (.slice (some a1) nk c1) ∧ w'.cell? ⟨w.heap.size, 2, none⟩ = some (.slice (some a2) (nk + 1) c2))
    (first | (with_reducible exact Q2.out) | (with_reducible exact ⟨Lib.cell?_alloc_some _ Q2.out.1, Lib.cell?_alloc_some _ Q2.out.2⟩) | (with_reducible exact ⟨cs3 Q2.out.1 (by dsimp only; have := HS.out; have := G2.out; omega), cs3 Q2.out.2 (by dsimp only; have := HS.out; have := G2.out; omega)⟩) | (with_reducible exact Q1.out) | (with_reducible exact ⟨Lib.cell?_alloc_some _ Q1.out.1, Lib.cell?_alloc_some _ Q1.out.2⟩) | go_keep)
    (first
      | (go_at_call 69; refine (HC1.out _ HB.out.drew).mono ?_; rintro e w2 ⟨K1, ck1, rfl, hR, hb2⟩; have HB1 := Aside0.mk (HB.out.drew.trans (hb2.mono HB.out.drew.size)); have G2 := Aside0.mk (show W1.heap.size ≤ w2.heap.size from Nat.le_trans (by exact Nat.le_refl _) hb2.size); have K1_ := Aside0.mk (And.intro (blk_below (blk_drew K.out.1) hb2) (blk_below (blk_drew K.out.2) hb2)); have R1 := Aside0.mk (Kd.R_lower hR (show w.heap.size + 2 ≤ _ by have := HS.out; exact this)); have Q1 := Aside0.mk (show w2.cell? ⟨w.heap.size, 1, none⟩ = some (.slice (some a1) nk c1) ∧ w2.cell? ⟨w.heap.size, 2, none⟩ = some (.slice (some a2) (nk + 1) c2) from ⟨blk_cell K1_.out.1 1, blk_cell K1_.out.1 2⟩); clear hb2 hR)
      | (go_at_call 69; refine (HC1.out _ (HB.out.alloc HB.out.size (.cells #[.slice none 0 0, .slice none 0 0, .slice none 0 0] 26)).drew).mono ?_; rintro e w2 ⟨K1, ck1, rfl, hR, hb2⟩; have HB1 := Aside0.mk ((HB.out.alloc HB.out.size (.cells #[.slice none 0 0, .slice none 0 0, .slice none 0 0] 26)).drew.trans (hb2.mono (HB.out.alloc HB.out.size (.cells #[.slice none 0 0, .slice none 0 0, .slice none 0 0] 26)).drew.size)); have G2 := Aside0.mk (show W1.heap.size ≤ w2.heap.size from Nat.le_trans (by simp) hb2.size); have K1_ := Aside0.mk (And.intro (blk_below (blk_drew (blk_alloc K.out.1 (.cells #[.slice none 0 0, .slice none 0 0, .slice none 0 0] 26))) hb2) (blk_below (blk_drew (blk_alloc K.out.2 (.cells #[.slice none 0 0, .slice none 0 0, .slice none 0 0] 26))) hb2)); have R1 := Aside0.mk (Kd.R_lower hR (show w.heap.size + 2 ≤ _ by have := HS.out; simp; omega)); have KL := Aside0.mk (blk_below (blk_drew (blk_new W1 (.cells #[.slice none 0 0, .slice none 0 0, .slice none 0 0] 26))) hb2); have GL := Aside0.mk (show w.heap.size + 2 ≤ W1.heap.size from HS.out); have Q1 := Aside0.mk (show w2.cell? ⟨w.heap.size, 1, none⟩ = some (.slice (some a1) nk c1) ∧ w2.cell? ⟨w.heap.size, 2, none⟩ = some (.slice (some a2) (nk + 1) c2) from ⟨blk_cell K1_.out.1 1, blk_cell K1_.out.1 2⟩); clear hb2 hR)
      | (go_at_call 71; have KL' := KL; refine (HC2.out _ HB1.out).mono ?_; rintro e w3 ⟨D1, cd1, rfl, hR, hb3⟩; have HB2 := Aside0.mk (HB1.out.trans (hb3.mono HB1.out.size)); have G3 := Aside0.mk (show W1.heap.size ≤ w3.heap.size from Nat.le_trans G2.out (Nat.le_trans (by exact Nat.le_refl _) hb3.size)); have K2 := Aside0.mk (And.intro (blk_below (K1_.out.1) hb3) (blk_below (K1_.out.2) hb3)); have R2 := Aside0.mk (And.intro (Kd.R_below R1.out hb3) (Kd.R_lower hR (show w.heap.size + 2 ≤ _ by have := HS.out; have := G2.out; omega))); have KM := Aside0.mk (blk_below KL'.out hb3); have p0 := blk_cell KM.out 0; have p1 := blk_cell KM.out 1; have p2 := blk_cell KM.out 2; have f0 := blk_frozen KM.out 0; have f1 := blk_frozen KM.out 1; have f2 := blk_frozen KM.out 2; have Q2 := Aside0.mk (show w3.cell? ⟨w.heap.size, 1, none⟩ = some (.slice (some a1) nk c1) ∧ w3.cell? ⟨w.heap.size, 2, none⟩ = some (.slice (some a2) (nk + 1) c2) from ⟨blk_cell K2.out.1 1, blk_cell K2.out.1 2⟩); clear hb3 hR)
      | (go_at_call 71; refine (HC2.out _ HB1.out).mono ?_; rintro e w3 ⟨D1, cd1, rfl, hR, hb3⟩; have HB2 := Aside0.mk (HB1.out.trans (hb3.mono HB1.out.size)); have G3 := Aside0.mk (show W1.heap.size ≤ w3.heap.size from Nat.le_trans G2.out (Nat.le_trans (by exact Nat.le_refl _) hb3.size)); have K2 := Aside0.mk (And.intro (blk_below (K1_.out.1) hb3) (blk_below (K1_.out.2) hb3)); have R2 := Aside0.mk (And.intro (Kd.R_below R1.out hb3) (Kd.R_lower hR (show w.heap.size + 2 ≤ _ by have := HS.out; have := G2.out; omega))); have Q2 := Aside0.mk (show w3.cell? ⟨w.heap.size, 1, none⟩ = some (.slice (some a1) nk c1) ∧ w3.cell? ⟨w.heap.size, 2, none⟩ = some (.slice (some a2) (nk + 1) c2) from ⟨blk_cell K2.out.1 1, blk_cell K2.out.1 2⟩); clear hb3 hR)
      | (go_at_call 71; refine (HC2.out _ (HB1.out.alloc HB1.out.size (.cells #[.slice none 0 0, .slice none 0 0, .slice none 0 0] 26))).mono ?_; rintro e w3 ⟨D1, cd1, rfl, hR, hb3⟩; have HB2 := Aside0.mk ((HB1.out.alloc HB1.out.size (.cells #[.slice none 0 0, .slice none 0 0, .slice none 0 0] 26)).trans (hb3.mono (HB1.out.alloc HB1.out.size (.cells #[.slice none 0 0, .slice none 0 0, .slice none 0 0] 26)).size)); have G3 := Aside0.mk (show W1.heap.size ≤ w3.heap.size from Nat.le_trans G2.out (Nat.le_trans (by simp) hb3.size)); have K2 := Aside0.mk (And.intro (blk_below (blk_alloc K1_.out.1 (.cells #[.slice none 0 0, .slice none 0 0, .slice none 0 0] 26)) hb3) (blk_below (blk_alloc K1_.out.2 (.cells #[.slice none 0 0, .slice none 0 0, .slice none 0 0] 26)) hb3)); have R2 := Aside0.mk (And.intro (Kd.R_below (Kd.R_below R1.out ((Below.refl w2.heap.size w2).alloc (Nat.le_refl _) (.cells #[.slice none 0 0, .slice none 0 0, .slice none 0 0] 26))) hb3) (Kd.R_lower hR (show w.heap.size + 2 ≤ _ by have := HS.out; have := G2.out; simp; omega))); have KM := Aside0.mk (blk_below (blk_new w2 (.cells #[.slice none 0 0, .slice none 0 0, .slice none 0 0] 26)) hb3); have p0 := blk_cell KM.out 0; have p1 := blk_cell KM.out 1; have p2 := blk_cell KM.out 2; have f0 := blk_frozen KM.out 0; have f1 := blk_frozen KM.out 1; have f2 := blk_frozen KM.out 2; have Q2 := Aside0.mk (show w3.cell? ⟨w.heap.size, 1, none⟩ = some (.slice (some a1) nk c1) ∧ w3.cell? ⟨w.heap.size, 2, none⟩ = some (.slice (some a2) (nk + 1) c2) from ⟨blk_cell K2.out.1 1, blk_cell K2.out.1 2⟩); clear hb3 hR))
  all_goals
    first
      | (obtain ⟨WL, hWL⟩ : ∃ WL, w3.alloc (.cells #[.slice none 0 0, .slice K1 q ck1, .slice D1 (q + 1) cd1] 26) = WL := ⟨_, rfl⟩; rw [hWL]; obtain ⟨gL, hgL⟩ : ∃ gL, w3.heap.size = gL := ⟨_, rfl⟩; have KF : Aside0 (WL.heap[w.heap.size]? = some (.cells #[.slice A0 ps.length c0, .slice (some a1) nk c1, .slice (some a2) (nk + 1) c2] 26 (0, 0)) ∧ WL.heap[w.heap.size + 1]? = some (.cells #[.slice none 0 0, .slice none 0 0, .slice none 0 0, .slice none 0 0, .slice none 0 0, .slice none 0 0, .string ⟨#[]⟩] 81 (0, 0)) ∧ WL.heap[gL]? = some (.cells #[.slice none 0 0, .slice K1 q ck1, .slice D1 (q + 1) cd1] 26 (0, 0)) ∧ Kd.R Kd.string 9 WL (w.heap.size + 2) (fun _ => True) (.slice K1 q ck1) (ks.take q) ∧ Kd.R (Kd.int .u32) 65 WL (w.heap.size + 2) (fun _ => True) (.slice D1 (q + 1) cd1) (kd.take (q + 1)) ∧ Below w.heap.size w WL) := Aside0.mk (by rw [← hWL, ← hgL]; exact ⟨blk_alloc K2.out.1 _, blk_alloc K2.out.2 _, blk_new w3 _, Kd.R_below R2.out.1 ((Below.refl w3.heap.size w3).alloc (Nat.le_refl _) _), Kd.R_below R2.out.2 ((Below.refl w3.heap.size w3).alloc (Nat.le_refl _) _), HB2.out.alloc HB2.out.size _⟩); have GL := Aside0.mk (show w.heap.size + 2 ≤ gL by rw [← hgL]; have := HS.out; have := G2.out; have := G3.out; omega); rw [hgL]; clear hWL hgL)
      | (obtain ⟨WL, hWL⟩ : ∃ WL, ((w3.setCell ⟨W1.heap.size, 0, none⟩ (.slice none 0 0)).setCell ⟨W1.heap.size, 1, none⟩ (.slice K1 q ck1)).setCell ⟨W1.heap.size, 2, none⟩ (.slice D1 (q + 1) cd1) = WL := ⟨_, rfl⟩; rw [hWL]; obtain ⟨gL, hgL⟩ : ∃ gL, W1.heap.size = gL := ⟨_, rfl⟩; have KF : Aside0 (WL.heap[w.heap.size]? = some (.cells #[.slice A0 ps.length c0, .slice (some a1) nk c1, .slice (some a2) (nk + 1) c2] 26 (0, 0)) ∧ WL.heap[w.heap.size + 1]? = some (.cells #[.slice none 0 0, .slice none 0 0, .slice none 0 0, .slice none 0 0, .slice none 0 0, .slice none 0 0, .string ⟨#[]⟩] 81 (0, 0)) ∧ WL.heap[gL]? = some (.cells #[.slice none 0 0, .slice K1 q ck1, .slice D1 (q + 1) cd1] 26 (0, 0)) ∧ Kd.R Kd.string 9 WL (w.heap.size + 2) (fun _ => True) (.slice K1 q ck1) (ks.take q) ∧ Kd.R (Kd.int .u32) 65 WL (w.heap.size + 2) (fun _ => True) (.slice D1 (q + 1) cd1) (kd.take (q + 1)) ∧ Below w.heap.size w WL) := Aside0.mk (by rw [← hWL, ← hgL]; exact ⟨blk_far3 K2.out.1 (by have := HS.out; have := G2.out; omega), blk_far3 K2.out.2 (by have := HS.out; have := G2.out; omega), blk_set3 KM.out, R_set3 R2.out.1 KM.out (by decide), R_set3 R2.out.2 KM.out (by decide), below_set3 HB2.out (by have := HS.out; have := G2.out; omega)⟩); have GL := Aside0.mk (show w.heap.size + 2 ≤ gL by rw [← hgL]; have := HS.out; have := G2.out; have := G3.out; omega); rw [hgL]; clear hWL hgL)
      | (obtain ⟨WL, hWL⟩ : ∃ WL, ((w3.setCell ⟨w2.heap.size, 0, none⟩ (.slice none 0 0)).setCell ⟨w2.heap.size, 1, none⟩ (.slice K1 q ck1)).setCell ⟨w2.heap.size, 2, none⟩ (.slice D1 (q + 1) cd1) = WL := ⟨_, rfl⟩; rw [hWL]; obtain ⟨gL, hgL⟩ : ∃ gL, w2.heap.size = gL := ⟨_, rfl⟩; have KF : Aside0 (WL.heap[w.heap.size]? = some (.cells #[.slice A0 ps.length c0, .slice (some a1) nk c1, .slice (some a2) (nk + 1) c2] 26 (0, 0)) ∧ WL.heap[w.heap.size + 1]? = some (.cells #[.slice none 0 0, .slice none 0 0, .slice none 0 0, .slice none 0 0, .slice none 0 0, .slice none 0 0, .string ⟨#[]⟩] 81 (0, 0)) ∧ WL.heap[gL]? = some (.cells #[.slice none 0 0, .slice K1 q ck1, .slice D1 (q + 1) cd1] 26 (0, 0)) ∧ Kd.R Kd.string 9 WL (w.heap.size + 2) (fun _ => True) (.slice K1 q ck1) (ks.take q) ∧ Kd.R (Kd.int .u32) 65 WL (w.heap.size + 2) (fun _ => True) (.slice D1 (q + 1) cd1) (kd.take (q + 1)) ∧ Below w.heap.size w WL) := Aside0.mk (by rw [← hWL, ← hgL]; exact ⟨blk_far3 K2.out.1 (by have := HS.out; have := G2.out; omega), blk_far3 K2.out.2 (by have := HS.out; have := G2.out; omega), blk_set3 KM.out, R_set3 R2.out.1 KM.out (by decide), R_set3 R2.out.2 KM.out (by decide), below_set3 HB2.out (by have := HS.out; have := G2.out; omega)⟩); have GL := Aside0.mk (show w.heap.size + 2 ≤ gL by rw [← hgL]; have := HS.out; have := G2.out; have := G3.out; omega); rw [hgL]; clear hWL hgL)
    have n1 : ∀ g' : Nat, g' = w.heap.size ∨ g' = gL → g' ≠ w.heap.size + 1 := fun g' hg => by have := GL.out; omega
    have HN := Aside0.mk n1
    have q0 : WL.cell? ⟨gL, 0, none⟩ = some (.slice none 0 0) := blk_cell KF.out.2.2.1 0
    have q1' : WL.cell? ⟨gL, 1, none⟩ = some (.slice K1 q ck1) := blk_cell KF.out.2.2.1 1
    have q2' : WL.cell? ⟨gL, 2, none⟩ = some (.slice D1 (q + 1) cd1) := blk_cell KF.out.2.2.1 2
    have q3 : WL.cell? ⟨w.heap.size, 1, none⟩ = some (.slice (some a1) nk c1) := blk_cell KF.out.1 1
    have q4 : WL.cell? ⟨w.heap.size, 2, none⟩ = some (.slice (some a2) (nk + 1) c2) := blk_cell KF.out.1 2
    have q5 : WL.cell? (a1.add q) = some (.string key) := (KF.out.2.2.2.2.2.cell HX.out.2).trans HX.out.1
    clear n1
    try clear p0 p1 p2 f0 f1 f2
    clear q1 q2
    go_wp2_with fail
    go_region_held3 (fun w' => w'.cell? ⟨gL, 0, none⟩ = some (.slice none 0 0) ∧ w'.cell? ⟨gL, 1, none⟩ = some (.slice K1 q ck1) ∧ w'.cell? ⟨gL, 2, none⟩ = some (.slice D1 (q + 1) cd1) ∧ w'.cell? ⟨w.heap.size, 1, none⟩ = some (.slice (some a1) nk c1) ∧ w'.cell? ⟨w.heap.size, 2, none⟩ = some (.slice (some a2) (nk + 1) c2) ∧ w'.cell? (a1.add q) = some (.string key))
      (first | (with_reducible exact Q5.out) | (with_reducible exact ⟨cs7 Q5.out.1 (HN.out _ (.inr rfl)), cs7 Q5.out.2.1 (HN.out _ (.inr rfl)), cs7 Q5.out.2.2.1 (HN.out _ (.inr rfl)), cs7 Q5.out.2.2.2.1 (HN.out _ (.inl rfl)), cs7 Q5.out.2.2.2.2.1 (HN.out _ (.inl rfl)), cs7 Q5.out.2.2.2.2.2 (by have := HX.out.2; omega)⟩) | (with_reducible exact Q4.out) | go_keep)
      (first
        | (go_at_call 69; refine (HC3.out _ KF.out.2.2.2.2.2.drew).mono ?_; rintro e w4 ⟨K3, ck3, rfl, hR, hb4⟩; have HB4 := Aside0.mk (KF.out.2.2.2.2.2.drew.trans (hb4.mono KF.out.2.2.2.2.2.size)); have K4 := Aside0.mk (And.intro (blk_below (blk_drew KF.out.1) hb4) (And.intro (blk_below (blk_drew KF.out.2.1) hb4) (blk_below (blk_drew KF.out.2.2.1) hb4))); have R4 := Aside0.mk (And.intro (Kd.R_below (Kd.R_step KF.out.2.2.2.1 (w1 := WL.drew) (fun _ _ _ => rfl)) hb4) (And.intro (Kd.R_below (Kd.R_step KF.out.2.2.2.2.1 (w1 := WL.drew) (fun _ _ _ => rfl)) hb4) hR)); have Q4 := Aside0.mk (show w4.cell? ⟨gL, 0, none⟩ = some (.slice none 0 0) ∧ w4.cell? ⟨gL, 1, none⟩ = some (.slice K1 q ck1) ∧ w4.cell? ⟨gL, 2, none⟩ = some (.slice D1 (q + 1) cd1) ∧ w4.cell? ⟨w.heap.size, 1, none⟩ = some (.slice (some a1) nk c1) ∧ w4.cell? ⟨w.heap.size, 2, none⟩ = some (.slice (some a2) (nk + 1) c2) ∧ w4.cell? (a1.add q) = some (.string key) from ⟨blk_cell K4.out.2.2 0, blk_cell K4.out.2.2 1, blk_cell K4.out.2.2 2, blk_cell K4.out.1 1, blk_cell K4.out.1 2, (HB4.out.cell HX.out.2).trans HX.out.1⟩); clear hb4 hR)
        | (go_at_call 71; refine (HC4.out _ HB4.out).mono ?_; rintro e w5 ⟨D3, cd3, rfl, hR, hb5⟩; have HB5 := Aside0.mk (HB4.out.trans (hb5.mono HB4.out.size)); have G5 := Aside0.mk (show w.heap.size ≤ WL.heap.size ∧ w.heap.size ≤ w4.heap.size from ⟨KF.out.2.2.2.2.2.size, HB4.out.size⟩); have K5 := Aside0.mk (And.intro (blk_below K4.out.1 hb5) (And.intro (blk_below K4.out.2.1 hb5) (blk_below K4.out.2.2 hb5))); have R5 := Aside0.mk (And.intro (Kd.R_below R4.out.1 hb5) (And.intro (Kd.R_below R4.out.2.1 hb5) (And.intro (Kd.R_below R4.out.2.2 hb5) hR))); have p0 := blk_cell K5.out.2.1 0; have p1 := blk_cell K5.out.2.1 1; have p2 := blk_cell K5.out.2.1 2; have p3 := blk_cell K5.out.2.1 3; have p4 := blk_cell K5.out.2.1 4; have p5 := blk_cell K5.out.2.1 5; have p6 := blk_cell K5.out.2.1 6; have f0 := blk_frozen K5.out.2.1 0; have f1 := blk_frozen K5.out.2.1 1; have f2 := blk_frozen K5.out.2.1 2; have f3 := blk_frozen K5.out.2.1 3; have f4 := blk_frozen K5.out.2.1 4; have f5 := blk_frozen K5.out.2.1 5; have f6 := blk_frozen K5.out.2.1 6; have Q5 := Aside0.mk (show w5.cell? ⟨gL, 0, none⟩ = some (.slice none 0 0) ∧ w5.cell? ⟨gL, 1, none⟩ = some (.slice K1 q ck1) ∧ w5.cell? ⟨gL, 2, none⟩ = some (.slice D1 (q + 1) cd1) ∧ w5.cell? ⟨w.heap.size, 1, none⟩ = some (.slice (some a1) nk c1) ∧ w5.cell? ⟨w.heap.size, 2, none⟩ = some (.slice (some a2) (nk + 1) c2) ∧ w5.cell? (a1.add q) = some (.string key) from ⟨blk_cell K5.out.2.2 0, blk_cell K5.out.2.2 1, blk_cell K5.out.2.2 2, blk_cell K5.out.1 1, blk_cell K5.out.1 2, (HB5.out.cell HX.out.2).trans HX.out.1⟩); clear hb5 hR))
    all_goals
      go_wp2
      refine bodyPost_ret (results_cell_row rfl _ _ (w.heap.size + 1) 81 #[.slice none 0 0, .slice K1 q ck1, .slice D1 (q + 1) cd1, .slice none 0 0, .slice K3 (nk - (q + 1)) ck3, .slice D3 (nk - q) cd3, .string key] (0, 0) _ rfl (blk_set7 K5.out.2.1) Try.underlying81 rfl (by kernel_rfl)) rfl ?_
      exact ⟨K1, ck1, D1, cd1, K3, ck3, D3, cd3, rfl, (Kd.R_lower (R_sett7 R5.out.1 K5.out.2.1 (by decide)) (by have := G5.out; omega)), (Kd.R_lower (R_sett7 R5.out.2.1 K5.out.2.1 (by decide)) (by have := G5.out; omega)), (Kd.R_lower (R_sett7 R5.out.2.2.1 K5.out.2.1 (by decide)) G5.out.1), (Kd.R_lower (R_sett7 R5.out.2.2.2 K5.out.2.1 (by decide)) G5.out.2), below_set7 HB5.out (by omega)⟩
end Go.Proofs.Ytejempihaknplaa.G
