/- package node: Split by hand. -/
import Derived.Test.YtejempihaknplaaHCut
namespace Go.Proofs.Ytejempihaknplaa.G
open Go.RowKit Go.Proofs.YtejempihaknplaaW.PrintWords Go.Proofs.YtejempihaknplaaW.PrintLast Go.Proofs.YtejempihaknplaaW.PrintMore
set_option linter.unusedVariables false

/-- A node whose slices the call has made. -/
structure Nd.Own (x : Nd) (w : World) (base : Nat) : Prop where
  p : Kd.R k39 39 w base (fun _ => True) x.v0 x.ps
  k : Kd.R Kd.string 9 w base (fun _ => True) x.v1 x.ks
  d : Kd.R (Kd.int .u32) 65 w base (fun _ => True) x.v2 x.kd
theorem Nd.Own.at_ {x : Nd} {w : World} {base : Nat} (h : x.Own w base) : x.At w := ⟨(R_here h.p).2.2, (R_here h.p).2.1, (R_here h.k).2.2, (R_here h.k).2.1, (R_here h.d).2.2, (R_here h.d).2.1⟩
theorem Nd.Own.below {x : Nd} {w w' : World} {base : Nat} (h : x.Own w base) (hb : Below w.heap.size w w') : x.Own w' base := ⟨Kd.R_below h.p hb, Kd.R_below h.k hb, Kd.R_below h.d hb⟩
theorem Nd.Own.lower {x : Nd} {w : World} {base b : Nat} (h : x.Own w base) (hb : b ≤ base) : x.Own w b := ⟨Kd.R_lower h.p hb, Kd.R_lower h.k hb, Kd.R_lower h.d hb⟩
theorem Nd.Own.set7 {x : Nd} {w : World} {base g : Nat} {cs : Array Value} {u0 u1 u2 u3 u4 u5 u6 : Value} (h : x.Own w base) (hb : w.heap[g]? = some (.cells cs 81 (0, 0))) :
    x.Own (((((((w.setCell ⟨g, 0, none⟩ u0).setCell ⟨g, 1, none⟩ u1).setCell ⟨g, 2, none⟩ u2).setCell ⟨g, 3, none⟩ u3).setCell ⟨g, 4, none⟩ u4).setCell ⟨g, 5, none⟩ u5).setCell ⟨g, 6, none⟩ u6) base := ⟨R_sett7 h.p hb (by decide), R_sett7 h.k hb (by decide), R_sett7 h.d hb (by decide)⟩
theorem Nd.Own.set3 {x : Nd} {w : World} {base g : Nat} {cs : Array Value} {u0 u1 u2 : Value} (h : x.Own w base) (hb : w.heap[g]? = some (.cells cs 26 (0, 0))) :
    x.Own (((w.setCell ⟨g, 0, none⟩ u0).setCell ⟨g, 1, none⟩ u1).setCell ⟨g, 2, none⟩ u2) base := ⟨R_set3 h.p hb (by decide), R_set3 h.k hb (by decide), R_set3 h.d hb (by decide)⟩
/-- These are the halves of x behind m parts. -/
def CutIs (x : Nd) (m : Nat) (a b : Nd) (key : ByteArray) : Prop := (a.ps, a.ks, a.kd, b.ps, b.ks, b.kd, key) = cutN x.ps x.ks x.kd m

theorem ncut_any (x : Nd) (m : Nat) (w : World) (h : x.At w) (hs : x.small) (hr : x.right = true) (h1 : leastN x.kd ≤ m) (h2 : m + leastN x.kd ≤ x.ps.length + x.kd.length) :
    Calls Try.prog 50 #[.agg #[x.v0, x.v1, x.v2], .int .i64 (m : Int)] w fun e w' => ∃ (a b : Nd) (key : ByteArray), e = .returned (.agg #[a.v0, a.v1, a.v2, b.v0, b.v1, b.v2, .string key]) ∧ a.Own w' w.heap.size ∧ b.Own w' w.heap.size ∧ CutIs x m a b key ∧ Below w.heap.size w w' := by
  have hs2 := hs
  simp only [Nd.small, smallB, Bool.and_eq_true, decide_eq_true_eq] at hs2
  rcases right_or (show rightB x.ps x.ks x.kd = true from hr) with hl | hl
  · have hf := leaf_facts hl
    have hkd : x.kd = [] := hf.2.1
    have hle : leastN x.kd = 1 := by rw [hkd]; rfl
    rw [hle] at h1 h2
    rw [hkd, List.length_nil, Nat.add_zero] at h2
    refine (ncut_leaf x m w h (by rw [hkd]; rfl) h1 (by omega) (by omega)).mono ?_
    rintro e w' ⟨A, c, A', c', rfl, r1, r2, hb⟩
    have l1 : (x.ps.take m).length = m := by rw [List.length_take]; omega
    have l2 : (x.ps.drop m).length = x.ps.length - m := by rw [List.length_drop]
    refine ⟨⟨A, c, x.ps.take m, none, 0, [], none, 0, []⟩, ⟨A', c', x.ps.drop m, none, 0, [], none, 0, []⟩, (x.ps[m]'(by omega)).f0, ?_, ⟨?_, Kd.R_nil _ _ _ _ _, Kd.R_nil _ _ _ _ _⟩, ⟨?_, Kd.R_nil _ _ _ _ _, Kd.R_nil _ _ _ _ _⟩, ?_, hb⟩
    · dsimp only [Nd.v0, Nd.v1, Nd.v2, List.length_nil]
      rw [l1, l2]
    · dsimp only [Nd.v0]
      rw [l1]
      exact r1
    · dsimp only [Nd.v0]
      rw [l2]
      exact r2
    · unfold CutIs cutN
      rw [hkd]
      simp only [List.isEmpty_nil, if_true, List.getElem?_eq_getElem (show m < x.ps.length by omega), Option.map_some, Option.getD_some]
  · have hf := branch_facts hl
    have hps : x.ps = [] := hf.1
    have hne : x.kd.isEmpty = false := by
      have := hf.2.1
      cases hk : x.kd with
      | nil => rw [hk] at this; simp at this
      | cons _ _ => rfl
    have hle : leastN x.kd = 2 := by unfold leastN; rw [hne]; rfl
    rw [hle] at h1 h2
    rw [hps, List.length_nil, Nat.zero_add] at h2
    have hlen : x.ks.length + 1 = x.kd.length := hf.2.2.2.1
    obtain ⟨q, rfl⟩ : ∃ q, m = q + 1 := ⟨m - 1, by omega⟩
    have e1 : ((q + 1 : Nat) : Int) = (q : Int) + 1 := by omega
    rw [e1]
    refine (ncut_branch x q w h hlen.symm (by omega) (by omega)).mono ?_
    rintro e w' ⟨A1, c1, A2, c2, B1, d1, B2, d2, rfl, r1, r2, r3, r4, hb⟩
    have l1 : (x.ks.take q).length = q := by rw [List.length_take]; omega
    have l2 : (x.kd.take (q + 1)).length = q + 1 := by rw [List.length_take]; omega
    have l3 : (x.ks.drop (q + 1)).length = x.ks.length - (q + 1) := by rw [List.length_drop]
    have l4 : (x.kd.drop (q + 1)).length = x.ks.length - q := by rw [List.length_drop]; omega
    refine ⟨⟨none, 0, [], A1, c1, x.ks.take q, A2, c2, x.kd.take (q + 1)⟩, ⟨none, 0, [], B1, d1, x.ks.drop (q + 1), B2, d2, x.kd.drop (q + 1)⟩, x.ks[q]'(by omega), ?_, ⟨Kd.R_nil _ _ _ _ _, ?_, ?_⟩, ⟨Kd.R_nil _ _ _ _ _, ?_, ?_⟩, ?_, hb⟩
    · dsimp only [Nd.v0, Nd.v1, Nd.v2, List.length_nil]
      rw [l1, l2, l3, l4]
    · dsimp only [Nd.v1]
      rw [l1]
      exact r1
    · dsimp only [Nd.v2]
      rw [l2]
      exact r2
    · dsimp only [Nd.v1]
      rw [l3]
      exact r3
    · dsimp only [Nd.v2]
      rw [l4]
      exact r4
    · unfold CutIs cutN
      rw [hne]
      simp only [Bool.false_eq_true, if_false, Nat.add_sub_cancel, List.getElem?_eq_getElem (show q < x.ks.length by omega), Option.getD_some]

/-- The best cut among the first ones. -/
def bestN (most : Nat → Nat) (least : Nat) : Nat → Nat
  | 0 => least
  | d + 1 => if most (least + 1 + d) < most (bestN most least d) then least + 1 + d else bestN most least d
theorem bestN_in (most : Nat → Nat) (least : Nat) : ∀ d, least ≤ bestN most least d ∧ bestN most least d ≤ least + d
  | 0 => ⟨Nat.le_refl _, Nat.le_refl _⟩
  | d + 1 => by
    have ih := bestN_in most least d
    unfold bestN
    split <;> omega
def Nd.count (x : Nd) : Nat := x.ps.length + x.kd.length
def Nd.least (x : Nd) : Nat := leastN x.kd
def Nd.most (x : Nd) (m : Nat) : Nat := mostN x.ps x.ks x.kd m
def Nd.best (x : Nd) (d : Nat) : Nat := bestN x.most x.least d
/-- What Split answers. -/
def splitR (x : Nd) : List S39 × List ByteArray × List Int × List S39 × List ByteArray × List Int × ByteArray × Int :=
  if x.right = true ∧ 2 * x.least ≤ x.count then
    ((cutN x.ps x.ks x.kd (x.best (x.count - 2 * x.least))).1, (cutN x.ps x.ks x.kd (x.best (x.count - 2 * x.least))).2.1, (cutN x.ps x.ks x.kd (x.best (x.count - 2 * x.least))).2.2.1, (cutN x.ps x.ks x.kd (x.best (x.count - 2 * x.least))).2.2.2.1, (cutN x.ps x.ks x.kd (x.best (x.count - 2 * x.least))).2.2.2.2.1, (cutN x.ps x.ks x.kd (x.best (x.count - 2 * x.least))).2.2.2.2.2.1, (cutN x.ps x.ks x.kd (x.best (x.count - 2 * x.least))).2.2.2.2.2.2, 0)
  else ([], [], [], [], [], [], ⟨#[]⟩, 60)
def SplitIs (x a b : Nd) (key : ByteArray) (err : Int) : Prop := (a.ps, a.ks, a.kd, b.ps, b.ks, b.kd, key, err) = splitR x
theorem cut_max {x a b : Nd} {m : Nat} {key : ByteArray} (h : CutIs x m a b key) : max a.size b.size = x.most m := by
  unfold CutIs at h
  unfold Nd.most mostN leftN rightN Nd.size
  rw [← h]
theorem cut_good {x a b : Nd} {m : Nat} {key : ByteArray} (h : CutIs x m a b key) (hs : x.small) (hr : x.right = true) (h1 : 1 ≤ m) (h2 : m < x.count) : a.small ∧ b.small ∧ a.right = true ∧ b.right = true := by
  unfold CutIs at h
  have s := cut_smalls (show smallB x.ps x.ks x.kd = true from hs) m
  have r := halves_right (show rightB x.ps x.ks x.kd = true from hr) m h1 h2
  rw [← h] at s r
  exact ⟨s.1, s.2, r.1, r.2⟩
def Nd.none_ : Nd := ⟨none, 0, [], none, 0, [], none, 0, []⟩
theorem none_at (w : World) : Nd.none_.At w := ⟨Kd.C_nil _ _, Nat.le_refl _, Kd.C_nil _ _, Nat.le_refl _, Kd.C_nil _ _, Nat.le_refl _⟩

/-- What stands while the cuts are tried. -/
structure SpI (w : World) (x a b : Nd) (key : ByteArray) (B8 : Nat) (W : World) : Prop where
  b0 : W.heap[w.heap.size]? = some (.cells #[x.v0, x.v1, x.v2] 26 (0, 0))
  b1 : W.heap[w.heap.size + 1]? = some (.cells #[.slice none 0 0, .slice none 0 0, .slice none 0 0] 26 (0, 0))
  b2 : W.heap[w.heap.size + 2]? = some (.cells #[.slice none 0 0, .slice none 0 0, .slice none 0 0] 26 (0, 0))
  b8 : W.heap[B8]? = some (.cells #[a.v0, a.v1, a.v2, b.v0, b.v1, b.v2, .string key] 81 (0, 0))
  oa : a.Own W w.heap.size
  ob : b.Own W w.heap.size
  bel : Below w.heap.size w W
  le : w.heap.size + 3 ≤ B8
theorem SpI.below {w W W' : World} {x a b : Nd} {key : ByteArray} {B8 : Nat} (h : SpI w x a b key B8 W) (hb : Below W.heap.size W W') : SpI w x a b key B8 W' :=
  ⟨blk_below h.b0 hb, blk_below h.b1 hb, blk_below h.b2 hb, blk_below h.b8 hb, h.oa.below hb, h.ob.below hb, h.bel.trans (hb.mono h.bel.size), h.le⟩
theorem blk_far7 {W : World} {g k : Nat} {o : Obj} {u0 u1 u2 u3 u4 u5 u6 : Value} (h : W.heap[k]? = some o) (hn : k ≠ g) :
    (((((((W.setCell ⟨g, 0, none⟩ u0).setCell ⟨g, 1, none⟩ u1).setCell ⟨g, 2, none⟩ u2).setCell ⟨g, 3, none⟩ u3).setCell ⟨g, 4, none⟩ u4).setCell ⟨g, 5, none⟩ u5).setCell ⟨g, 6, none⟩ u6).heap[k]? = some o := by
  rw [heap_setCell_other, heap_setCell_other, heap_setCell_other, heap_setCell_other, heap_setCell_other, heap_setCell_other, heap_setCell_other]
  · exact h
  all_goals exact hn

set_option maxRecDepth 100000 in
set_option maxHeartbeats 8000000 in
theorem nsplit_any (x : Nd) (w : World) (h : x.At w) (hs : x.small) :
    Calls Try.prog 27 #[.agg #[x.v0, x.v1, x.v2]] w fun e w' => ∃ (a b : Nd) (key : ByteArray) (err : Int), e = .returned (.tuple #[.agg #[a.v0, a.v1, a.v2], .string key, .agg #[b.v0, b.v1, b.v2], .int .i64 err]) ∧ a.At w' ∧ b.At w' ∧ SplitIs x a b key err ∧ Below w.heap.size w w' := by
  have hs2 := hs
  simp only [Nd.small, smallB, Bool.and_eq_true, decide_eq_true_eq] at hs2
  obtain ⟨least, hle⟩ : ∃ n, x.least = n := ⟨_, rfl⟩
  obtain ⟨count, hco⟩ : ∃ n, x.count = n := ⟨_, rfl⟩
  have hl12 : (x.kd.length = 0 ∧ least = 1) ∨ (0 < x.kd.length ∧ least = 2) := by
    rw [← hle]
    unfold Nd.least leastN
    cases hk : x.kd with
    | nil => exact .inl ⟨rfl, rfl⟩
    | cons a l => exact .inr ⟨by simp, rfl⟩
  have HR := Aside0.mk (fun W (hb : Below w.heap.size w W) => nright_any x W (h.below hb) hs)
  have HC := Aside0.mk (fun (hr : x.right = true) m W (hb : Below w.heap.size w W) (h1 : least ≤ m) (h2 : m + least ≤ count) => ncut_any x m W (h.below hb) hs hr (by rw [← hle] at h1; exact h1) (by rw [← hle, ← hco] at h2; exact h2))
  have HSM := Aside0.mk (And.intro hs (And.intro hle hco))
  have hcnt : ((x.ps.length : Nat) : Int) + ((x.kd.length : Nat) : Int) = (count : Int) := by rw [← hco]; unfold Nd.count; omega
  have hc3 : count ≤ 200000 := by rw [← hco]; unfold Nd.count; omega
  have hl3 : 1 ≤ least ∧ least ≤ 2 := by omega
  obtain ⟨np, hnp⟩ : ∃ n, x.ps.length = n := ⟨_, rfl⟩
  obtain ⟨nd, hnd⟩ : ∃ n, x.kd.length = n := ⟨_, rfl⟩
  rw [hnp, hnd] at hcnt
  rw [hnd] at hl12
  have HL := Aside0.mk (And.intro hnp hnd)
  clear h hs hs2 hle hco
  go_enter Try.func27, Try.ntmps27
  go_wp2_with fail
  obtain ⟨W1, hW1⟩ : ∃ W1, ((w.alloc (.cells #[x.v0, x.v1, x.v2] 26)).alloc (.cells #[.slice none 0 0, .slice none 0 0, .slice none 0 0] 26)).alloc (.cells #[.slice none 0 0, .slice none 0 0, .slice none 0 0] 26) = W1 := ⟨_, rfl⟩
  have k0 : W1.heap[w.heap.size]? = some (.cells #[x.v0, x.v1, x.v2] 26 (0, 0)) := by rw [← hW1]; exact blk_alloc (blk_alloc (blk_new w _) _) _
  have k1 : W1.heap[w.heap.size + 1]? = some (.cells #[.slice none 0 0, .slice none 0 0, .slice none 0 0] 26 (0, 0)) := by
    rw [← hW1]
    have := blk_new (w.alloc (.cells #[x.v0, x.v1, x.v2] 26)) (.cells #[.slice none 0 0, .slice none 0 0, .slice none 0 0] 26)
    rw [World.size_alloc] at this
    exact blk_alloc this _
  have k2 : W1.heap[w.heap.size + 2]? = some (.cells #[.slice none 0 0, .slice none 0 0, .slice none 0 0] 26 (0, 0)) := by
    rw [← hW1]
    have := blk_new ((w.alloc (.cells #[x.v0, x.v1, x.v2] 26)).alloc (.cells #[.slice none 0 0, .slice none 0 0, .slice none 0 0] 26)) (.cells #[.slice none 0 0, .slice none 0 0, .slice none 0 0] 26)
    simp only [World.size_alloc] at this
    exact this
  have b1 : Below w.heap.size w W1 := by rw [← hW1]; exact (((Below.refl w.heap.size w).alloc (Nat.le_refl _) _).alloc (by simp) _).alloc (by simp; omega) _
  have s1 : w.heap.size + 3 ≤ W1.heap.size := by rw [← hW1]; simp
  rw [hW1]
  have K := Aside0.mk (And.intro k0 (And.intro k1 (And.intro k2 (And.intro b1 s1))))
  have q0 : W1.cell? ⟨w.heap.size, 0, none⟩ = some x.v0 := blk_cell k0 0
  have q1 : W1.cell? ⟨w.heap.size, 1, none⟩ = some x.v1 := blk_cell k0 1
  have q2 : W1.cell? ⟨w.heap.size, 2, none⟩ = some x.v2 := blk_cell k0 2
  clear hW1 k0 k1 k2 b1 s1
  have wr1 : IntKind.i64.wrap ((np : Int) + (nd : Int)) = (count : Int) := by rw [hcnt]; exact IntWalk.i64_in _ (by omega)
  rw [Nd.v0, hnp] at q0
  rw [Nd.v2, hnd] at q2
  go_quiet (fail)
  obtain ⟨W2, hW2⟩ : ∃ W2, W1.drewN nq = W2 := ⟨_, rfl⟩
  have K2 : Aside0 (W2.heap[w.heap.size]? = some (.cells #[x.v0, x.v1, x.v2] 26 (0, 0)) ∧ W2.heap[w.heap.size + 1]? = some (.cells #[.slice none 0 0, .slice none 0 0, .slice none 0 0] 26 (0, 0)) ∧ W2.heap[w.heap.size + 2]? = some (.cells #[.slice none 0 0, .slice none 0 0, .slice none 0 0] 26 (0, 0)) ∧ Below w.heap.size w W2 ∧ w.heap.size + 3 ≤ W2.heap.size) := Aside0.mk (by rw [← hW2]; exact ⟨blk_drewN K.out.1 _, blk_drewN K.out.2.1 _, blk_drewN K.out.2.2.1 _, pw_below_drewN K.out.2.2.2.1 _, K.out.2.2.2.2⟩)
  rw [hW2]
  clear hW2 q0 q1 q2 wr1 K
  have q0 : W2.cell? ⟨w.heap.size, 0, none⟩ = some x.v0 := blk_cell K2.out.1 0
  have q1 : W2.cell? ⟨w.heap.size, 1, none⟩ = some x.v1 := blk_cell K2.out.1 1
  have q2 : W2.cell? ⟨w.heap.size, 2, none⟩ = some x.v2 := blk_cell K2.out.1 2
  rw [Nd.v2, HL.out.2] at q2
  go_upto_if 21 with (fail)
  go_cut [6] (fun v6 wc => v6 = .int .i64 (least : Int) ∧ wc = W2)
  case first =>
    rcases hl12 with ⟨h0, rfl⟩ | ⟨h0, rfl⟩
    · subst h0
      go_wp2
      go_meet
      case rel => exact ⟨rfl, rfl⟩
    · have g0 : (0 : Int) < (nd : Int) := by omega
      go_wp2
      go_meet
      case rel => exact ⟨rfl, rfl⟩
  case rest =>
    obtain ⟨rfl, rfl⟩ := hcut
    rw [Nd.v0, HL.out.1] at q0
    have q2' : wc.cell? ⟨w.heap.size, 2, none⟩ = some x.v2 := blk_cell K2.out.1 2
    have q0' : wc.cell? ⟨w.heap.size, 0, none⟩ = some x.v0 := blk_cell K2.out.1 0
    clear q0 q2
    have wr2 : IntKind.i64.wrap (2 * (least : Int)) = 2 * (least : Int) := IntWalk.i64_in _ (by omega)
    by_cases hok : x.right = true ∧ 2 * least ≤ count
    case neg =>
      have hno : x.right = false ∨ (x.right = true ∧ count < 2 * least) := by
        cases hr : x.right with
        | false => exact .inl rfl
        | true => exact .inr ⟨rfl, by rcases Nat.lt_or_ge count (2 * least) with h | h; exact h; exact absurd ⟨hr, h⟩ hok⟩
      have HNO := Aside0.mk hok
      clear hok
      rcases hno with hr | ⟨hr, hlt⟩
      all_goals
        rw [hr] at HR
        clear hr
        go_wp2_with (go_at_call 14; refine (HR.out _ K2.out.2.2.2.1).mono ?_; rintro e w3 ⟨rfl, hb3⟩
                     have K3 := Aside0.mk (And.intro (blk_below K2.out.2.1 hb3) (And.intro (blk_below K2.out.2.2.1 hb3) (K2.out.2.2.2.1.trans (hb3.mono K2.out.2.2.2.1.size))))
                     have p0 := blk_cell K3.out.1 0; have p1 := blk_cell K3.out.1 1; have p2 := blk_cell K3.out.1 2
                     have f0 := blk_frozen K3.out.1 0; have f1 := blk_frozen K3.out.1 1; have f2 := blk_frozen K3.out.1 2
                     have p3 : w3.cell? ⟨w.heap.size + 1 + 1, 0, none⟩ = some (.slice none 0 0) := blk_cell K3.out.2.1 0
                     have p4 : w3.cell? ⟨w.heap.size + 1 + 1, 1, none⟩ = some (.slice none 0 0) := blk_cell K3.out.2.1 1
                     have p5 : w3.cell? ⟨w.heap.size + 1 + 1, 2, none⟩ = some (.slice none 0 0) := blk_cell K3.out.2.1 2
                     have f3 : w3.frozen? ⟨w.heap.size + 1 + 1, 0, none⟩ = false := blk_frozen K3.out.2.1 0
                     have f4 : w3.frozen? ⟨w.heap.size + 1 + 1, 1, none⟩ = false := blk_frozen K3.out.2.1 1
                     have f5 : w3.frozen? ⟨w.heap.size + 1 + 1, 2, none⟩ = false := blk_frozen K3.out.2.1 2
                     clear hb3)
        refine bodyPost_ret (results_list (rs := [.cell 2 26, .tmp 3, .cell 4 26, .tmp 5]) rfl (by simp) (.cell (w.heap.size + 1) 26 #[.slice none 0 0, .slice none 0 0, .slice none 0 0] (0, 0) _ rfl (blk_far3 (blk_set3 K3.out.1) (by omega)) Try.underlying26 rfl (by kernel_rfl) (.tmp (.cell (w.heap.size + 1 + 1) 26 #[.slice none 0 0, .slice none 0 0, .slice none 0 0] (0, 0) _ rfl (blk_set3 (blk_far3 K3.out.2.1 (by omega))) Try.underlying26 rfl (by kernel_rfl) (.tmp .nil))))) rfl ?_
        refine ⟨Nd.none_, Nd.none_, ⟨#[]⟩, 60, rfl, none_at _, none_at _, ?_, below_set3 (below_set3 K3.out.2.2 (by omega)) (by omega)⟩
        unfold SplitIs splitR
        rw [if_neg (by rw [HSM.out.2.1, HSM.out.2.2]; exact HNO.out)]
        rfl
    case pos =>
      obtain ⟨hr, hle⟩ := hok
      have HC' := Aside0.mk (HC.out hr)
      have HRR := Aside0.mk hr
      rw [hr] at HR
      have i1 : ¬ (count : Int) < 2 * (least : Int) := by omega
      clear hr HC
      go_wp2_with (first
        | (go_at_call 14; refine (HR.out _ K2.out.2.2.2.1).mono ?_; rintro e w3 ⟨rfl, hb3⟩
           have K3 := Aside0.mk (And.intro (blk_below K2.out.1 hb3) (And.intro (blk_below K2.out.2.1 hb3) (And.intro (blk_below K2.out.2.2.1 hb3) (And.intro (K2.out.2.2.2.1.trans (hb3.mono K2.out.2.2.2.1.size)) (Nat.le_trans K2.out.2.2.2.2 hb3.size)))))
           have r0 : w3.cell? ⟨w.heap.size, 0, none⟩ = some x.v0 := blk_cell K3.out.1 0
           have r1 : w3.cell? ⟨w.heap.size, 1, none⟩ = some x.v1 := blk_cell K3.out.1 1
           have r2 : w3.cell? ⟨w.heap.size, 2, none⟩ = some x.v2 := blk_cell K3.out.1 2
           clear hb3)
        | (go_at_call 50; refine (HC'.out least _ K3.out.2.2.2.1 (Nat.le_refl _) (by omega)).mono ?_; rintro e w4 ⟨a, b, key, rfl, oa, ob, hcut, hb4⟩
           have H4 := Aside0.mk (And.intro oa (And.intro ob (And.intro hcut hb4)))
           clear oa ob hcut hb4))
      obtain ⟨B8, hB8⟩ : ∃ n, w4.heap.size = n := ⟨_, rfl⟩
      have hI : SpI w x a b key B8 (w4.alloc (.cells #[a.v0, a.v1, a.v2, b.v0, b.v1, b.v2, .string key] 81)) := by
        obtain ⟨oa, ob, hcut, hb4⟩ := H4.out
        have hal := (Below.refl w4.heap.size w4).alloc (Nat.le_refl _) (.cells #[a.v0, a.v1, a.v2, b.v0, b.v1, b.v2, .string key] 81)
        have hz := hb4.size
        have hz3 := K3.out.2.2.2.2
        exact ⟨blk_alloc (blk_below K3.out.1 hb4) _, blk_alloc (blk_below K3.out.2.1 hb4) _, blk_alloc (blk_below K3.out.2.2.1 hb4) _, by rw [← hB8]; exact blk_new w4 _, (oa.lower K3.out.2.2.2.1.size).below hal, (ob.lower K3.out.2.2.2.1.size).below hal, (K3.out.2.2.2.1.trans (hb4.mono K3.out.2.2.2.1.size)).alloc (by omega) _, by omega⟩
      have HI := Aside0.mk (And.intro hI H4.out.2.2.1)
      obtain ⟨W5, hW5⟩ : ∃ W5, w4.alloc (.cells #[a.v0, a.v1, a.v2, b.v0, b.v1, b.v2, .string key] 81) = W5 := ⟨_, rfl⟩
      rw [hW5] at HI ⊢
      rw [hB8]
      clear hI hW5 hB8 H4 q0' q1 q2' r0 r1 r2
      go_loopw [9, 10] (fun i _ wr => ∃ (d m : Nat) (a b : Nd) (key : ByteArray), i = .int .i64 (m : Int) ∧ Aside0 (m = least + 1 + d) ∧ least + d + least ≤ count ∧ Aside0 (CutIs x (x.best d) a b key ∧ SpI w x a b key B8 wr)) (fun i _ _ => count + 1 - (intOf i).toNat)
      case atStart => exact ⟨0, least + 1, a, b, key, rfl, Aside0.mk rfl, by omega, Aside0.mk ⟨by rw [show x.best 0 = least from HSM.out.2.1]; exact HI.out.2, HI.out.1⟩⟩
      case round =>
        clear HI
        obtain ⟨d, m, a, b, key, rfl, hm, hd, HI⟩ := hrel
        have wr3 : IntKind.i64.wrap ((count : Int) - (least : Int)) = (count : Int) - (least : Int) := IntWalk.i64_in _ (by omega)
        by_cases hlt : m + least ≤ count
        · have i3 : (m : Int) ≤ (count : Int) - (least : Int) := by omega
          have r0 : wr.cell? ⟨w.heap.size, 0, none⟩ = some x.v0 := blk_cell HI.out.2.b0 0
          have r1 : wr.cell? ⟨w.heap.size, 1, none⟩ = some x.v1 := blk_cell HI.out.2.b0 1
          have r2 : wr.cell? ⟨w.heap.size, 2, none⟩ = some x.v2 := blk_cell HI.out.2.b0 2
          go_wp2_with (go_at_call 50; refine (HC'.out m _ HI.out.2.bel (by have := hm.out; omega) hlt).mono ?_; rintro e w5 ⟨a', b', key', rfl, oa, ob, hcut, hb5⟩
                       have H5 := Aside0.mk (And.intro oa (And.intro ob (And.intro hcut hb5)))
                       clear oa ob hcut hb5)
          obtain ⟨B10, hB10⟩ : ∃ n, w5.heap.size = n := ⟨_, rfl⟩
          obtain ⟨W6, hW6⟩ : ∃ W6, w5.alloc (.cells #[a'.v0, a'.v1, a'.v2, b'.v0, b'.v1, b'.v2, .string key'] 81) = W6 := ⟨_, rfl⟩
          have H6 : Aside0 (SpI w x a b key B8 W6 ∧ W6.heap[B10]? = some (.cells #[a'.v0, a'.v1, a'.v2, b'.v0, b'.v1, b'.v2, .string key'] 81 (0, 0)) ∧ a'.Own W6 w.heap.size ∧ b'.Own W6 w.heap.size ∧ CutIs x m a' b' key') := Aside0.mk (by
            obtain ⟨oa, ob, hcut, hb5⟩ := H5.out
            have hal := (Below.refl w5.heap.size w5).alloc (Nat.le_refl _) (.cells #[a'.v0, a'.v1, a'.v2, b'.v0, b'.v1, b'.v2, .string key'] 81)
            rw [← hW6, ← hB10]
            exact ⟨(HI.out.2.below hb5).below hal, blk_new w5 _, (oa.lower HI.out.2.bel.size).below hal, (ob.lower HI.out.2.bel.size).below hal, hcut⟩)
          rw [hW6, hB10]
          clear H5 hW6 hB10 r0 r1 r2 i3
          have hbi := bestN_in x.most least d
          have hbx : x.best d = bestN x.most least d := by unfold Nd.best; rw [HSM.out.2.1]
          have hB : least ≤ x.best d ∧ x.best d ≤ least + d := by rw [hbx]; exact hbi
          have hco := HSM.out.2.2
          obtain ⟨sa, sb, ra, rb⟩ := cut_good HI.out.1 HSM.out.1 HRR.out (by omega) (by rw [hco]; omega)
          obtain ⟨sa', sb', ra', rb'⟩ := cut_good H6.out.2.2.2.2 HSM.out.1 HRR.out (by have := hm.out; omega) (by rw [hco]; omega)
          obtain ⟨p1, hp1⟩ : ∃ n, max a'.size b'.size = n := ⟨_, rfl⟩
          obtain ⟨p2, hp2⟩ : ∃ n, max a.size b.size = n := ⟨_, rfl⟩
          have HM1 := Aside0.mk (fun W (hb : Below W6.heap.size W6 W) => nmost_any a' b' key' W (H6.out.2.2.1.at_.below hb) (H6.out.2.2.2.1.at_.below hb) sa' sb' ra' rb')
          have HM2 := Aside0.mk (fun W (hb : Below W6.heap.size W6 W) => nmost_any a b key W (H6.out.1.oa.at_.below hb) (H6.out.1.ob.at_.below hb) sa sb ra rb)
          rw [hp1] at HM1
          rw [hp2] at HM2
          have HP : Aside0 (x.most m = p1 ∧ x.most (x.best d) = p2 ∧ x.best (d + 1) = if x.most m < x.most (x.best d) then m else x.best d) := Aside0.mk ⟨by rw [← hp1]; exact (cut_max H6.out.2.2.2.2).symm, by rw [← hp2]; exact (cut_max HI.out.1).symm, by rw [hbx]; unfold Nd.best; rw [HSM.out.2.1, hm.out]; rfl⟩
          clear hbi hbx hB hco sa sb ra rb sa' sb' ra' rb' hp1 hp2
          have Q6 : Aside0 (W6.cell? ⟨B8, 0, none⟩ = some (a.v0) ∧ W6.cell? ⟨B8, 1, none⟩ = some (a.v1) ∧ W6.cell? ⟨B8, 2, none⟩ = some (a.v2) ∧ W6.cell? ⟨B8, 3, none⟩ = some (b.v0) ∧ W6.cell? ⟨B8, 4, none⟩ = some (b.v1) ∧ W6.cell? ⟨B8, 5, none⟩ = some (b.v2) ∧ W6.cell? ⟨B8, 6, none⟩ = some (.string key) ∧ W6.cell? ⟨B10, 0, none⟩ = some (a'.v0) ∧ W6.cell? ⟨B10, 1, none⟩ = some (a'.v1) ∧ W6.cell? ⟨B10, 2, none⟩ = some (a'.v2) ∧ W6.cell? ⟨B10, 3, none⟩ = some (b'.v0) ∧ W6.cell? ⟨B10, 4, none⟩ = some (b'.v1) ∧ W6.cell? ⟨B10, 5, none⟩ = some (b'.v2) ∧ W6.cell? ⟨B10, 6, none⟩ = some (.string key')) := Aside0.mk ⟨blk_cell H6.out.1.b8 0, blk_cell H6.out.1.b8 1, blk_cell H6.out.1.b8 2, blk_cell H6.out.1.b8 3, blk_cell H6.out.1.b8 4, blk_cell H6.out.1.b8 5, blk_cell H6.out.1.b8 6, blk_cell H6.out.2.1 0, blk_cell H6.out.2.1 1, blk_cell H6.out.2.1 2, blk_cell H6.out.2.1 3, blk_cell H6.out.2.1 4, blk_cell H6.out.2.1 5, blk_cell H6.out.2.1 6⟩
          have qa := Q6.out
          obtain ⟨qa0, qa1, qa2, qa3, qa4, qa5, qa6, qb0, qb1, qb2, qb3, qb4, qb5, qb6⟩ := qa
          go_region_held3 (fun w' => w'.cell? ⟨B8, 0, none⟩ = some (a.v0) ∧ w'.cell? ⟨B8, 1, none⟩ = some (a.v1) ∧ w'.cell? ⟨B8, 2, none⟩ = some (a.v2) ∧ w'.cell? ⟨B8, 3, none⟩ = some (b.v0) ∧ w'.cell? ⟨B8, 4, none⟩ = some (b.v1) ∧ w'.cell? ⟨B8, 5, none⟩ = some (b.v2) ∧ w'.cell? ⟨B8, 6, none⟩ = some (.string key) ∧ w'.cell? ⟨B10, 0, none⟩ = some (a'.v0) ∧ w'.cell? ⟨B10, 1, none⟩ = some (a'.v1) ∧ w'.cell? ⟨B10, 2, none⟩ = some (a'.v2) ∧ w'.cell? ⟨B10, 3, none⟩ = some (b'.v0) ∧ w'.cell? ⟨B10, 4, none⟩ = some (b'.v1) ∧ w'.cell? ⟨B10, 5, none⟩ = some (b'.v2) ∧ w'.cell? ⟨B10, 6, none⟩ = some (.string key'))
            (first | (with_reducible exact Q8.out) | (with_reducible exact Q7.out) | go_keep)
            (first
              | (go_at_call 51; refine (HM1.out _ (Below.refl W6.heap.size W6).drew).mono ?_; rintro e w7 ⟨rfl, hb7⟩; have B7 := Aside0.mk ((Below.refl W6.heap.size W6).drew.trans hb7); have Q7 : Aside0 (w7.cell? ⟨B8, 0, none⟩ = some (a.v0) ∧ w7.cell? ⟨B8, 1, none⟩ = some (a.v1) ∧ w7.cell? ⟨B8, 2, none⟩ = some (a.v2) ∧ w7.cell? ⟨B8, 3, none⟩ = some (b.v0) ∧ w7.cell? ⟨B8, 4, none⟩ = some (b.v1) ∧ w7.cell? ⟨B8, 5, none⟩ = some (b.v2) ∧ w7.cell? ⟨B8, 6, none⟩ = some (.string key) ∧ w7.cell? ⟨B10, 0, none⟩ = some (a'.v0) ∧ w7.cell? ⟨B10, 1, none⟩ = some (a'.v1) ∧ w7.cell? ⟨B10, 2, none⟩ = some (a'.v2) ∧ w7.cell? ⟨B10, 3, none⟩ = some (b'.v0) ∧ w7.cell? ⟨B10, 4, none⟩ = some (b'.v1) ∧ w7.cell? ⟨B10, 5, none⟩ = some (b'.v2) ∧ w7.cell? ⟨B10, 6, none⟩ = some (.string key')) := Aside0.mk ⟨blk_cell (blk_below H6.out.1.b8 B7.out) 0, blk_cell (blk_below H6.out.1.b8 B7.out) 1, blk_cell (blk_below H6.out.1.b8 B7.out) 2, blk_cell (blk_below H6.out.1.b8 B7.out) 3, blk_cell (blk_below H6.out.1.b8 B7.out) 4, blk_cell (blk_below H6.out.1.b8 B7.out) 5, blk_cell (blk_below H6.out.1.b8 B7.out) 6, blk_cell (blk_below H6.out.2.1 B7.out) 0, blk_cell (blk_below H6.out.2.1 B7.out) 1, blk_cell (blk_below H6.out.2.1 B7.out) 2, blk_cell (blk_below H6.out.2.1 B7.out) 3, blk_cell (blk_below H6.out.2.1 B7.out) 4, blk_cell (blk_below H6.out.2.1 B7.out) 5, blk_cell (blk_below H6.out.2.1 B7.out) 6⟩; clear hb7)
              | (go_at_call 51; refine (HM2.out _ B7.out).mono ?_; rintro e w8 ⟨rfl, hb8⟩; have B8_ := Aside0.mk (B7.out.trans (hb8.mono B7.out.size)); have Q8 : Aside0 (w8.cell? ⟨B8, 0, none⟩ = some (a.v0) ∧ w8.cell? ⟨B8, 1, none⟩ = some (a.v1) ∧ w8.cell? ⟨B8, 2, none⟩ = some (a.v2) ∧ w8.cell? ⟨B8, 3, none⟩ = some (b.v0) ∧ w8.cell? ⟨B8, 4, none⟩ = some (b.v1) ∧ w8.cell? ⟨B8, 5, none⟩ = some (b.v2) ∧ w8.cell? ⟨B8, 6, none⟩ = some (.string key) ∧ w8.cell? ⟨B10, 0, none⟩ = some (a'.v0) ∧ w8.cell? ⟨B10, 1, none⟩ = some (a'.v1) ∧ w8.cell? ⟨B10, 2, none⟩ = some (a'.v2) ∧ w8.cell? ⟨B10, 3, none⟩ = some (b'.v0) ∧ w8.cell? ⟨B10, 4, none⟩ = some (b'.v1) ∧ w8.cell? ⟨B10, 5, none⟩ = some (b'.v2) ∧ w8.cell? ⟨B10, 6, none⟩ = some (.string key')) := Aside0.mk ⟨blk_cell (blk_below H6.out.1.b8 B8_.out) 0, blk_cell (blk_below H6.out.1.b8 B8_.out) 1, blk_cell (blk_below H6.out.1.b8 B8_.out) 2, blk_cell (blk_below H6.out.1.b8 B8_.out) 3, blk_cell (blk_below H6.out.1.b8 B8_.out) 4, blk_cell (blk_below H6.out.1.b8 B8_.out) 5, blk_cell (blk_below H6.out.1.b8 B8_.out) 6, blk_cell (blk_below H6.out.2.1 B8_.out) 0, blk_cell (blk_below H6.out.2.1 B8_.out) 1, blk_cell (blk_below H6.out.2.1 B8_.out) 2, blk_cell (blk_below H6.out.2.1 B8_.out) 3, blk_cell (blk_below H6.out.2.1 B8_.out) 4, blk_cell (blk_below H6.out.2.1 B8_.out) 5, blk_cell (blk_below H6.out.2.1 B8_.out) 6⟩; clear hb8))
          all_goals
            clear qa0 qa1 qa2 qa3 qa4 qa5 qa6 qb0 qb1 qb2 qb3 qb4 qb5 qb6
            have H8 : Aside0 (SpI w x a b key B8 w8 ∧ w8.heap[B10]? = some (.cells #[a'.v0, a'.v1, a'.v2, b'.v0, b'.v1, b'.v2, .string key'] 81 (0, 0)) ∧ a'.Own w8 w.heap.size ∧ b'.Own w8 w.heap.size) := Aside0.mk ⟨H6.out.1.below B8_.out, blk_below H6.out.2.1 B8_.out, H6.out.2.2.1.below B8_.out, H6.out.2.2.2.1.below B8_.out⟩
            obtain ⟨qa0, qa1, qa2, qa3, qa4, qa5, qa6, qb0, qb1, qb2, qb3, qb4, qb5, qb6⟩ := Q8.out
            have f0 := blk_frozen H8.out.1.b8 0
            have f1 := blk_frozen H8.out.1.b8 1
            have f2 := blk_frozen H8.out.1.b8 2
            have f3 := blk_frozen H8.out.1.b8 3
            have f4 := blk_frozen H8.out.1.b8 4
            have f5 := blk_frozen H8.out.1.b8 5
            have f6 := blk_frozen H8.out.1.b8 6
            by_cases hpp : (p1 : Int) < (p2 : Int)
            · go_wp2
              refine ⟨⟨d + 1, m + 1, a', b', key', by go_num, Aside0.mk (by have := hm.out; omega), by have := hm.out; omega, Aside0.mk ⟨?_, ?_⟩⟩, by simp [intOf]; omega⟩
              · rw [HP.out.2.2, HP.out.1, HP.out.2.1, if_pos (by omega)]
                exact H6.out.2.2.2.2
              · have hl8 := H8.out.1.le
                exact ⟨blk_far7 H8.out.1.b0 (by omega), blk_far7 H8.out.1.b1 (by omega), blk_far7 H8.out.1.b2 (by omega), blk_set7 H8.out.1.b8, H8.out.2.2.1.set7 H8.out.1.b8, H8.out.2.2.2.set7 H8.out.1.b8, below_set7 H8.out.1.bel (by omega), hl8⟩
            · go_wp2
              refine ⟨⟨d + 1, m + 1, a, b, key, by go_num, Aside0.mk (by have := hm.out; omega), by have := hm.out; omega, Aside0.mk ⟨?_, ?_⟩⟩, by simp [intOf]; omega⟩
              · rw [HP.out.2.2, HP.out.1, HP.out.2.1, if_neg (by omega)]
                exact HI.out.1
              · exact H8.out.1
        · have i3 : ¬ (m : Int) ≤ (count : Int) - (least : Int) := by omega
          have hdd : d = count - 2 * least := by have := hm.out; omega
          have HD := Aside0.mk hdd
          clear hdd
          have qa0 : wr.cell? ⟨B8, 0, none⟩ = some a.v0 := blk_cell HI.out.2.b8 0
          have qa1 : wr.cell? ⟨B8, 1, none⟩ = some a.v1 := blk_cell HI.out.2.b8 1
          have qa2 : wr.cell? ⟨B8, 2, none⟩ = some a.v2 := blk_cell HI.out.2.b8 2
          have qa3 : wr.cell? ⟨B8, 3, none⟩ = some b.v0 := blk_cell HI.out.2.b8 3
          have qa4 : wr.cell? ⟨B8, 4, none⟩ = some b.v1 := blk_cell HI.out.2.b8 4
          have qa5 : wr.cell? ⟨B8, 5, none⟩ = some b.v2 := blk_cell HI.out.2.b8 5
          have qa6 : wr.cell? ⟨B8, 6, none⟩ = some (.string key) := blk_cell HI.out.2.b8 6
          have p0 := blk_cell HI.out.2.b1 0
          have p1 := blk_cell HI.out.2.b1 1
          have p2 := blk_cell HI.out.2.b1 2
          have f0 := blk_frozen HI.out.2.b1 0
          have f1 := blk_frozen HI.out.2.b1 1
          have f2 := blk_frozen HI.out.2.b1 2
          have p3 : wr.cell? ⟨w.heap.size + 1 + 1, 0, none⟩ = some (.slice none 0 0) := blk_cell HI.out.2.b2 0
          have p4 : wr.cell? ⟨w.heap.size + 1 + 1, 1, none⟩ = some (.slice none 0 0) := blk_cell HI.out.2.b2 1
          have p5 : wr.cell? ⟨w.heap.size + 1 + 1, 2, none⟩ = some (.slice none 0 0) := blk_cell HI.out.2.b2 2
          have f3 : wr.frozen? ⟨w.heap.size + 1 + 1, 0, none⟩ = false := blk_frozen HI.out.2.b2 0
          have f4 : wr.frozen? ⟨w.heap.size + 1 + 1, 1, none⟩ = false := blk_frozen HI.out.2.b2 1
          have f5 : wr.frozen? ⟨w.heap.size + 1 + 1, 2, none⟩ = false := blk_frozen HI.out.2.b2 2
          have n1 : w.heap.size + 1 ≠ B8 := by have := HI.out.2.le; omega
          have n2 : w.heap.size + 1 + 1 ≠ B8 := by have := HI.out.2.le; omega
          go_wp2_with fail
          go_region
          all_goals
            go_wp2
            refine bodyPost_ret (results_list (rs := [.cell 2 26, .tmp 3, .cell 4 26, .tmp 5]) rfl (by simp) (.cell (w.heap.size + 1) 26 #[a.v0, a.v1, a.v2] (0, 0) _ rfl (blk_drew (blk_far3 (blk_set3 HI.out.2.b1) (by omega))) Try.underlying26 rfl (by kernel_rfl) (.tmp (.cell (w.heap.size + 1 + 1) 26 #[b.v0, b.v1, b.v2] (0, 0) _ rfl (blk_drew (blk_set3 (blk_far3 HI.out.2.b2 (by omega)))) Try.underlying26 rfl (by kernel_rfl) (.tmp .nil))))) rfl ?_
            refine ⟨a, b, key, 0, rfl, ((HI.out.2.oa.set3 HI.out.2.b1).set3 (blk_far3 HI.out.2.b2 (by omega))).at_.drew, ((HI.out.2.ob.set3 HI.out.2.b1).set3 (blk_far3 HI.out.2.b2 (by omega))).at_.drew, ?_, (below_set3 (below_set3 HI.out.2.bel (by omega)) (by omega)).drew⟩
            have hc := HI.out.1
            unfold CutIs at hc
            rw [HD.out] at hc
            unfold SplitIs splitR
            rw [if_pos ⟨HRR.out, by rw [HSM.out.2.1, HSM.out.2.2]; exact hle⟩, HSM.out.2.1, HSM.out.2.2, ← hc]
end Go.Proofs.Ytejempihaknplaa.G
