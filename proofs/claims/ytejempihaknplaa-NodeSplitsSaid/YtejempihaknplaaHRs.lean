/- package bazaarref06: Split by hand. -/
import Derived.Test.YtejempihaknplaaHRef
import Derived.Test.YtejempihaknplaaNdF
namespace Go.Proofs.Ytejempihaknplaa.G
open Go.RowKit Go.Proofs.YtejempihaknplaaW.PrintWords Go.Proofs.YtejempihaknplaaW.PrintLast Go.Proofs.YtejempihaknplaaW.PrintMore
set_option linter.unusedVariables false
set_option linter.unusedSimpArgs false

theorem rcut_any (x : Nd) (m : Nat) (w : World) (h : x.At w) (hs : x.small) (hr : x.right = true) (h1 : leastN x.kd ≤ m) (h2 : m + leastN x.kd ≤ x.ps.length + x.kd.length) :
    Calls Try.prog 52 #[.agg #[x.v0, x.v1, x.v2], .int .i64 (m : Int)] w fun e w' => ∃ (a b : Nd) (key : ByteArray), e = .returned (.tuple #[.agg #[a.v0, a.v1, a.v2], .string key, .agg #[b.v0, b.v1, b.v2]]) ∧ a.Own w' w.heap.size ∧ b.Own w' w.heap.size ∧ CutIs x m a b key ∧ Below w.heap.size w w' := by
  have hs2 := hs
  simp only [Nd.small, smallB, Bool.and_eq_true, decide_eq_true_eq] at hs2
  rcases right_or (show rightB x.ps x.ks x.kd = true from hr) with hl | hl
  · have hf := leaf_facts hl
    have hkd : x.kd = [] := hf.2.1
    have hle : leastN x.kd = 1 := by rw [hkd]; rfl
    rw [hle] at h1 h2
    rw [hkd, List.length_nil, Nat.add_zero] at h2
    refine (rcut_leaf x m w h (by rw [hkd]; rfl) h1 (by omega) (by omega)).mono ?_
    rintro e w' ⟨a, b, rfl, oa, ob, ⟨a1, a2, a3⟩, ⟨b1, b2, b3⟩, hb⟩
    refine ⟨a, b, _, rfl, oa, ob, ?_, hb⟩
    unfold CutIs cutN
    rw [hkd, a1, a2, a3, b1, b2, b3]
    simp only [List.isEmpty_nil, if_true, List.getElem?_eq_getElem (show m < x.ps.length by omega), Option.map_some, Option.getD_some]
  · have hf := branch_facts hl
    have hps : x.ps = [] := hf.1
    have hne : x.kd.isEmpty = false := by
      have := hf.2.1
      cases hk : x.kd with
      | nil => rw [hk] at this; simp at this
      | cons _ _ => rfl
    have hle : leastN x.kd = 2 := by unfold leastN; rw [hne]; rfl
    rw [hle] at h1 h2
    rw [hps, List.length_nil, Nat.zero_add] at h2
    have hlen : x.ks.length + 1 = x.kd.length := hf.2.2.2.1
    obtain ⟨q, rfl⟩ : ∃ q, m = q + 1 := ⟨m - 1, by omega⟩
    have e1 : ((q + 1 : Nat) : Int) = (q : Int) + 1 := by omega
    rw [e1]
    refine (rcut_branch x q w h hlen.symm (by omega) (by omega)).mono ?_
    rintro e w' ⟨a, b, rfl, oa, ob, ⟨a1, a2, a3⟩, ⟨b1, b2, b3⟩, hb⟩
    refine ⟨a, b, _, rfl, oa, ob, ?_, hb⟩
    unfold CutIs cutN
    rw [hne, a1, a2, a3, b1, b2, b3]
    simp only [Bool.false_eq_true, if_false, Nat.add_sub_cancel, List.getElem?_eq_getElem (show q < x.ks.length by omega), Option.getD_some]

/-- A node as the law cuts it. -/
def Nd.cut (x : Nd) : Prop := Cut x.ps x.ks x.kd
def Nd.bytes (x : Nd) : ByteArray := ⟨(bytesN x.ps x.ks x.kd).toArray⟩
theorem rright_any (x : Nd) (w : World) (h : x.At w) (hc : x.cut) : Calls Try.prog 15 #[.agg #[x.v0, x.v1, x.v2]] w fun e w' => e = .returned (.bool x.right) ∧ Below w.heap.size w w' :=
  bazaarref06_Right.calls 1000000 x.A0 x.c0 x.ps x.A1 x.c1 x.ks x.A2 x.c2 x.kd _ w h.p h.pc h.k h.kc h.d h.dc (refRight_eq hc 1000000 (by omega))
theorem rbytes_any (x : Nd) (w : World) (h : x.At w) (hc : x.cut) (hr : x.right = true) : Calls Try.prog 37 #[.agg #[x.v0, x.v1, x.v2]] w fun e w' => e = .returned (.string x.bytes) ∧ Below w.heap.size w w' :=
  bazaarref06_bytes.calls 1000000 x.A0 x.c0 x.ps x.A1 x.c1 x.ks x.A2 x.c2 x.kd _ w h.p h.pc h.k h.kc h.d h.dc (bytes_eq hc (show rightB x.ps x.ks x.kd = true from hr) 1000000 (by omega))
theorem bytes_size {x : Nd} (hr : x.right = true) : x.bytes.size = x.size := by
  have := bytes_length (show rightB x.ps x.ks x.kd = true from hr)
  unfold Nd.bytes Nd.size ByteArray.size
  simpa using this
theorem cut_cuts {x a b : Nd} {m : Nat} {key : ByteArray} (h : CutIs x m a b key) (hc : x.cut) : a.cut ∧ b.cut := by
  have s := cut_smalls hc.1 m
  unfold CutIs at h
  rw [← h] at s
  have hps : (∀ p ∈ a.ps, p ∈ x.ps) ∧ (∀ p ∈ b.ps, p ∈ x.ps) ∧ (∀ p ∈ a.ks, p ∈ x.ks) ∧ (∀ p ∈ b.ks, p ∈ x.ks) := by
    unfold cutN at h
    split at h
    · simp only [Prod.mk.injEq] at h
      obtain ⟨e1, e2, e3, e4, e5, e6, _⟩ := h
      rw [e1, e2, e4, e5]
      exact ⟨fun p hp => List.mem_of_mem_take hp, fun p hp => List.mem_of_mem_drop hp, fun p hp => by simp at hp, fun p hp => by simp at hp⟩
    · simp only [Prod.mk.injEq] at h
      obtain ⟨e1, e2, e3, e4, e5, e6, _⟩ := h
      rw [e1, e2, e4, e5]
      exact ⟨fun p hp => by simp at hp, fun p hp => by simp at hp, fun p hp => List.mem_of_mem_take hp, fun p hp => List.mem_of_mem_drop hp⟩
  exact ⟨⟨s.1, fun p hp => hc.2.1 p (hps.1 p hp), fun p hp => hc.2.2 p (hps.2.2.1 p hp)⟩, ⟨s.2, fun p hp => hc.2.1 p (hps.2.1 p hp), fun p hp => hc.2.2 p (hps.2.2.2 p hp)⟩⟩
/-- What stands while the reference tries its cuts. -/
structure RsI (w : World) (x : Nd) (W : World) : Prop where
  b0 : W.heap[w.heap.size]? = some (.cells #[x.v0, x.v1, x.v2] 26 (0, 0))
  b1 : W.heap[w.heap.size + 1]? = some (.cells #[.slice none 0 0, .slice none 0 0, .slice none 0 0] 26 (0, 0))
  b2 : W.heap[w.heap.size + 1 + 1]? = some (.cells #[.slice none 0 0, .slice none 0 0, .slice none 0 0] 26 (0, 0))
  bel : Below w.heap.size w W
  le : w.heap.size + 3 ≤ W.heap.size
theorem RsI.below {w W W' : World} {x : Nd} (h : RsI w x W) (hb : Below W.heap.size W W') : RsI w x W' :=
  ⟨blk_below h.b0 hb, blk_below h.b1 hb, blk_below h.b2 hb, h.bel.trans (hb.mono h.bel.size), Nat.le_trans h.le hb.size⟩
/-- The same while the results are stored. -/
structure RsJ (w : World) (a b : Nd) (p q : Nat) (W : World) : Prop where
  b1 : ∃ z0 z1 z2, W.heap[w.heap.size + 1]? = some (.cells #[z0, z1, z2] 26 (0, 0))
  b2 : ∃ z0 z1 z2, W.heap[w.heap.size + 1 + 1]? = some (.cells #[z0, z1, z2] 26 (0, 0))
  b3 : W.heap[p]? = some (.cells #[a.v0, a.v1, a.v2] 26 (0, 0))
  b4 : W.heap[q]? = some (.cells #[b.v0, b.v1, b.v2] 26 (0, 0))
  oa : a.Own W w.heap.size
  ob : b.Own W w.heap.size
  bel : Below w.heap.size w W
  lp : w.heap.size + 3 ≤ p
  lq : w.heap.size + 3 ≤ q
theorem RsJ.below {w W W' : World} {a b : Nd} {p q : Nat} (h : RsJ w a b p q W) (hb : Below W.heap.size W W') : RsJ w a b p q W' := by
  obtain ⟨z0, z1, z2, h1⟩ := h.b1
  obtain ⟨y0, y1, y2, h2⟩ := h.b2
  exact ⟨⟨_, _, _, blk_below h1 hb⟩, ⟨_, _, _, blk_below h2 hb⟩, blk_below h.b3 hb, blk_below h.b4 hb, h.oa.below hb, h.ob.below hb, h.bel.trans (hb.mono h.bel.size), h.lp, h.lq⟩
theorem RsJ.set1 {w W : World} {a b : Nd} {p q : Nat} {u0 u1 u2 : Value} (h : RsJ w a b p q W) : RsJ w a b p q (((W.setCell ⟨w.heap.size + 1, 0, none⟩ u0).setCell ⟨w.heap.size + 1, 1, none⟩ u1).setCell ⟨w.heap.size + 1, 2, none⟩ u2) := by
  obtain ⟨z0, z1, z2, h1⟩ := h.b1
  obtain ⟨y0, y1, y2, h2⟩ := h.b2
  have := h.lp
  have := h.lq
  exact ⟨⟨_, _, _, blk_set3 h1⟩, ⟨_, _, _, blk_far3 h2 (by omega)⟩, blk_far3 h.b3 (by omega), blk_far3 h.b4 (by omega), h.oa.set3 h1, h.ob.set3 h1, below_set3 h.bel (by omega), h.lp, h.lq⟩
theorem RsJ.set2 {w W : World} {a b : Nd} {p q : Nat} {u0 u1 u2 : Value} (h : RsJ w a b p q W) : RsJ w a b p q (((W.setCell ⟨w.heap.size + 1 + 1, 0, none⟩ u0).setCell ⟨w.heap.size + 1 + 1, 1, none⟩ u1).setCell ⟨w.heap.size + 1 + 1, 2, none⟩ u2) := by
  obtain ⟨z0, z1, z2, h1⟩ := h.b1
  obtain ⟨y0, y1, y2, h2⟩ := h.b2
  have := h.lp
  have := h.lq
  exact ⟨⟨_, _, _, blk_far3 h1 (by omega)⟩, ⟨_, _, _, blk_set3 h2⟩, blk_far3 h.b3 (by omega), blk_far3 h.b4 (by omega), h.oa.set3 h2, h.ob.set3 h2, below_set3 h.bel (by omega), h.lp, h.lq⟩
/-- A cut's halves, while their sizes are taken. -/
structure RsL (w : World) (x a b : Nd) (p q : Nat) (W : World) : Prop where
  i : RsI w x W
  b3 : W.heap[p]? = some (.cells #[a.v0, a.v1, a.v2] 26 (0, 0))
  b4 : W.heap[q]? = some (.cells #[b.v0, b.v1, b.v2] 26 (0, 0))
  oa : a.Own W w.heap.size
  ob : b.Own W w.heap.size
theorem RsL.below {w W W' : World} {x a b : Nd} {p q : Nat} (h : RsL w x a b p q W) (hb : Below W.heap.size W W') : RsL w x a b p q W' :=
  ⟨h.i.below hb, blk_below h.b3 hb, blk_below h.b4 hb, h.oa.below hb, h.ob.below hb⟩
theorem rsl_new {w w3 w5 : World} {x a b : Nd} (h : RsI w x w3) (oa : a.Own w5 w3.heap.size) (ob : b.Own w5 w3.heap.size) (hb : Below w3.heap.size w3 w5) :
    RsL w x a b w5.heap.size (w5.heap.size + 1) ((w5.alloc (.cells #[a.v0, a.v1, a.v2] 26)).alloc (.cells #[b.v0, b.v1, b.v2] 26)) := by
  have k1 := blk_new (w5.alloc (.cells #[a.v0, a.v1, a.v2] 26)) (.cells #[b.v0, b.v1, b.v2] 26)
  rw [World.size_alloc] at k1
  have hal := ((Below.refl w5.heap.size w5).alloc (Nat.le_refl _) (.cells #[a.v0, a.v1, a.v2] 26)).alloc (by simp) (.cells #[b.v0, b.v1, b.v2] 26)
  exact ⟨(h.below hb).below hal, blk_alloc (blk_new w5 _) _, k1, (oa.lower h.bel.size).below hal, (ob.lower h.bel.size).below hal⟩
def refSplit.T14 : Bool × List (List Nat × List Nat) := (true, [([], []), ([0], [0]), ([1], [1]), ([], []), ([3, 1], [3]), ([4], [4]), ([2, 5], [2, 5]), ([6, 4, 0, 1, 2, 3, 4, 5, 6], [6])])
def refSplit.B14 : List Nat := [0, 1, 3, 0, 11, 27, 63, 127]
theorem refSplit.tab14 : rtab .any (opsOf Try.f28 14) = refSplit.T14 := by kernel_rfl
theorem refSplit.bits14 : waitsOk refSplit.T14.2 refSplit.B14 = true := by kernel_rfl
def refSplit.T19 : Bool × List (List Nat × List Nat) := (true, [([], []), ([], []), ([], []), ([0, 0], [0]), ([1, 3, 0, 1, 3], [1]), ([2, 4, 0, 1, 2, 3, 4], [2]), ([5, 0, 1, 2, 3, 4, 5], [])])
def refSplit.B19 : List Nat := [0, 0, 0, 1, 11, 31, 63]
theorem refSplit.tab19 : rtab .any (opsOf Try.f28 19) = refSplit.T19 := by kernel_rfl
theorem refSplit.bits19 : waitsOk refSplit.T19.2 refSplit.B19 = true := by kernel_rfl

set_option maxRecDepth 100000 in
set_option maxHeartbeats 8000000 in
theorem rsplit_any (x : Nd) (w : World) (h : x.At w) (hcx : x.cut) :
    Calls Try.prog 28 #[.agg #[x.v0, x.v1, x.v2]] w fun e w' => ∃ (a b : Nd) (key : ByteArray) (err : Int), e = .returned (.tuple #[.agg #[a.v0, a.v1, a.v2], .string key, .agg #[b.v0, b.v1, b.v2], .int .i64 err]) ∧ a.At w' ∧ b.At w' ∧ SplitIs x a b key err ∧ Below w.heap.size w w' := by
  have hs : x.small := hcx.1
  have hs2 := hs
  simp only [Nd.small, smallB, Bool.and_eq_true, decide_eq_true_eq] at hs2
  obtain ⟨least, hle⟩ : ∃ n, x.least = n := ⟨_, rfl⟩
  obtain ⟨count, hco⟩ : ∃ n, x.count = n := ⟨_, rfl⟩
  have hl12 : (x.kd.length = 0 ∧ least = 1) ∨ (0 < x.kd.length ∧ least = 2) := by
    rw [← hle]
    unfold Nd.least leastN
    cases hk : x.kd with
    | nil => exact .inl ⟨rfl, rfl⟩
    | cons a l => exact .inr ⟨by simp, rfl⟩
  have HR := Aside0.mk (fun W (hb : Below w.heap.size w W) => rright_any x W (h.below hb) hcx)
  have HC := Aside0.mk (fun (hr : x.right = true) m W (hb : Below w.heap.size w W) (h1 : least ≤ m) (h2 : m + least ≤ count) => rcut_any x m W (h.below hb) hs hr (by rw [← hle] at h1; exact h1) (by rw [← hle, ← hco] at h2; exact h2))
  have HSM := Aside0.mk (And.intro hs (And.intro hle (And.intro hco hcx)))
  have hcnt : ((x.ps.length : Nat) : Int) + ((x.kd.length : Nat) : Int) = (count : Int) := by rw [← hco]; unfold Nd.count; omega
  have hc3 : count ≤ 200000 := by rw [← hco]; unfold Nd.count; omega
  have hl3 : 1 ≤ least ∧ least ≤ 2 := by omega
  obtain ⟨np, hnp⟩ : ∃ n, x.ps.length = n := ⟨_, rfl⟩
  obtain ⟨nd, hnd⟩ : ∃ n, x.kd.length = n := ⟨_, rfl⟩
  rw [hnp, hnd] at hcnt
  rw [hnd] at hl12
  have HL := Aside0.mk (And.intro hnp hnd)
  clear h hs hs2 hle hco hcx
  go_enter Try.func28, Try.ntmps28
  go_wp2_with fail
  obtain ⟨W1, hW1⟩ : ∃ W1, ((w.alloc (.cells #[x.v0, x.v1, x.v2] 26)).alloc (.cells #[.slice none 0 0, .slice none 0 0, .slice none 0 0] 26)).alloc (.cells #[.slice none 0 0, .slice none 0 0, .slice none 0 0] 26) = W1 := ⟨_, rfl⟩
  have I1 : RsI w x W1 := by
    have k1 := blk_new (w.alloc (.cells #[x.v0, x.v1, x.v2] 26)) (.cells #[.slice none 0 0, .slice none 0 0, .slice none 0 0] 26)
    have k2 := blk_new ((w.alloc (.cells #[x.v0, x.v1, x.v2] 26)).alloc (.cells #[.slice none 0 0, .slice none 0 0, .slice none 0 0] 26)) (.cells #[.slice none 0 0, .slice none 0 0, .slice none 0 0] 26)
    simp only [World.size_alloc] at k1 k2
    rw [← hW1]
    exact ⟨blk_alloc (blk_alloc (blk_new w _) _) _, blk_alloc k1 _, k2, (((Below.refl w.heap.size w).alloc (Nat.le_refl _) _).alloc (by simp) _).alloc (by simp; omega) _, by simp⟩
  rw [hW1]
  have HI1 := Aside0.mk I1
  clear hW1 I1
  refine (HR.out _ HI1.out.bel).mono ?_
  rintro e w3 ⟨rfl, hb3⟩
  have HI := Aside0.mk (HI1.out.below hb3)
  clear HI1 hb3
  have q0 : w3.cell? ⟨w.heap.size, 0, none⟩ = some (.slice x.A0 np x.c0) := by rw [← HL.out.1]; exact blk_cell HI.out.b0 0
  have q2 : w3.cell? ⟨w.heap.size, 2, none⟩ = some (.slice x.A2 nd x.c2) := by rw [← HL.out.2]; exact blk_cell HI.out.b0 2
  go_upto_if 24 with (fail)
  go_cut [7] (fun v7 wc => v7 = .int .i64 (least : Int) ∧ wc = w3)
  case first =>
    rcases hl12 with ⟨h0, rfl⟩ | ⟨h0, rfl⟩
    · subst h0
      go_wp2
      go_meet
      case rel => exact ⟨rfl, rfl⟩
    · have g0 : (0 : Int) < (nd : Int) := by omega
      go_wp2
      go_meet
      case rel => exact ⟨rfl, rfl⟩
  case rest =>
    obtain ⟨rfl, rfl⟩ := hcut
    have wr1 : IntKind.i64.wrap ((np : Int) + (nd : Int)) = (count : Int) := by rw [hcnt]; exact IntWalk.i64_in _ (by omega)
    have wr2 : IntKind.i64.wrap (2 * (least : Int)) = 2 * (least : Int) := IntWalk.i64_in _ (by omega)
    by_cases hok : x.right = true ∧ 2 * least ≤ count
    case neg =>
      have hno : x.right = false ∨ (x.right = true ∧ count < 2 * least) := by
        cases hr : x.right with
        | false => exact .inl rfl
        | true => exact .inr ⟨rfl, by rcases Nat.lt_or_ge count (2 * least) with h | h; exact h; exact absurd ⟨hr, h⟩ hok⟩
      have HNO := Aside0.mk hok
      have p0 := blk_cell HI.out.b1 0
      have p1 := blk_cell HI.out.b1 1
      have p2 := blk_cell HI.out.b1 2
      have f0 := blk_frozen HI.out.b1 0
      have f1 := blk_frozen HI.out.b1 1
      have f2 := blk_frozen HI.out.b1 2
      have p3 : wc.cell? ⟨w.heap.size + 1 + 1, 0, none⟩ = some (.slice none 0 0) := blk_cell HI.out.b2 0
      have p4 : wc.cell? ⟨w.heap.size + 1 + 1, 1, none⟩ = some (.slice none 0 0) := blk_cell HI.out.b2 1
      have p5 : wc.cell? ⟨w.heap.size + 1 + 1, 2, none⟩ = some (.slice none 0 0) := blk_cell HI.out.b2 2
      have f3 : wc.frozen? ⟨w.heap.size + 1 + 1, 0, none⟩ = false := blk_frozen HI.out.b2 0
      have f4 : wc.frozen? ⟨w.heap.size + 1 + 1, 1, none⟩ = false := blk_frozen HI.out.b2 1
      have f5 : wc.frozen? ⟨w.heap.size + 1 + 1, 2, none⟩ = false := blk_frozen HI.out.b2 2
      clear hok
      rcases hno with hr | ⟨hr, hlt⟩
      all_goals
        rw [hr]
        clear hr
        go_wp2_with fail
        refine bodyPost_ret (results_list (rs := [.cell 2 26, .tmp 3, .cell 4 26, .tmp 5]) rfl (by simp) (.cell (w.heap.size + 1) 26 #[.slice none 0 0, .slice none 0 0, .slice none 0 0] (0, 0) _ rfl (blk_far3 (blk_set3 HI.out.b1) (by omega)) Try.underlying26 rfl (by kernel_rfl) (.tmp (.cell (w.heap.size + 1 + 1) 26 #[.slice none 0 0, .slice none 0 0, .slice none 0 0] (0, 0) _ rfl (blk_set3 (blk_far3 HI.out.b2 (by omega))) Try.underlying26 rfl (by kernel_rfl) (.tmp .nil))))) rfl ?_
        refine ⟨Nd.none_, Nd.none_, ⟨#[]⟩, 60, rfl, none_at _, none_at _, ?_, below_set3 (below_set3 HI.out.bel (by omega)) (by omega)⟩
        unfold SplitIs splitR
        rw [if_neg (by rw [HSM.out.2.1, HSM.out.2.2.1]; exact HNO.out)]
        rfl
    case pos =>
      obtain ⟨hr, hle⟩ := hok
      have HC' := Aside0.mk (HC.out hr)
      have HRR := Aside0.mk hr
      rw [hr]
      have i1 : ¬ (count : Int) < 2 * (least : Int) := by omega
      clear hr HC HR
      go_wp2_with fail
      go_loopw [9, 10, 11, 12, 13, 14, 15] (fun b t k _ _ _ _ wr => ∃ (bn tn m : Nat), b = .int .i64 (bn : Int) ∧ t = .int .i64 (tn : Int) ∧ k = .int .i64 (m : Int) ∧ least ≤ m ∧ m + least ≤ count + 1 ∧ Aside0 ((m = least ∧ bn = 0 ∧ tn = 0) ∨ ∃ d, m = least + 1 + d ∧ bn = x.best d ∧ tn = x.most (x.best d)) ∧ Aside0 (RsI w x wr)) (fun _ _ k _ _ _ _ _ => count + 1 - (intOf k).toNat)
      case atStart => exact ⟨0, 0, least, rfl, rfl, rfl, Nat.le_refl _, by omega, Aside0.mk (.inl ⟨rfl, rfl, rfl⟩), HI⟩
      case round =>
        clear HI
        obtain ⟨bn, tn, m, rfl, rfl, rfl, hm, hd, hbt, HI⟩ := hrel
        have wr3 : IntKind.i64.wrap ((count : Int) - (least : Int)) = (count : Int) - (least : Int) := IntWalk.i64_in _ (by omega)
        by_cases hlt : m + least ≤ count
        · have i3 : (m : Int) ≤ (count : Int) - (least : Int) := by omega
          have r0 : wr.cell? ⟨w.heap.size, 0, none⟩ = some x.v0 := blk_cell HI.out.b0 0
          have r1 : wr.cell? ⟨w.heap.size, 1, none⟩ = some x.v1 := blk_cell HI.out.b0 1
          have r2 : wr.cell? ⟨w.heap.size, 2, none⟩ = some x.v2 := blk_cell HI.out.b0 2
          go_wp2_with (go_at_call 52; refine (HC'.out m _ HI.out.bel hm hlt).mono ?_; rintro e w5 ⟨a, b, key, rfl, oa, ob, hcut, hb5⟩
                       have H5 := Aside0.mk (And.intro oa (And.intro ob (And.intro hcut hb5)))
                       clear oa ob hcut hb5)
          obtain ⟨p, hp⟩ : ∃ n, w5.heap.size = n := ⟨_, rfl⟩
          obtain ⟨W6, hW6⟩ : ∃ W6, (w5.alloc (.cells #[a.v0, a.v1, a.v2] 26)).alloc (.cells #[b.v0, b.v1, b.v2] 26) = W6 := ⟨_, rfl⟩
          have H6 : Aside0 (RsL w x a b p (p + 1) W6 ∧ CutIs x m a b key) := Aside0.mk (by
            obtain ⟨oa, ob, hcut, hb5⟩ := H5.out
            rw [← hW6, ← hp]
            exact ⟨rsl_new HI.out oa ob hb5, hcut⟩)
          rw [hW6, hp]
          clear H5 hW6 hp r0 r1 r2 i3
          have hco := HSM.out.2.2.1
          obtain ⟨sa, sb, ra, rb⟩ := cut_good H6.out.2 HSM.out.1 HRR.out (by omega) (by rw [hco]; omega)
          obtain ⟨ca, cb⟩ := cut_cuts H6.out.2 HSM.out.2.2.2
          have za := bytes_size ra
          have zb := bytes_size rb
          have hmx := cut_max H6.out.2
          have HM1 := Aside0.mk (fun W (hb : RsL w x a b p (p + 1) W) => rbytes_any a W hb.oa.at_ ca ra)
          have HM2 := Aside0.mk (fun W (hb : RsL w x a b p (p + 1) W) => rbytes_any b W hb.ob.at_ cb rb)
          obtain ⟨s1, hs1⟩ : ∃ s, a.bytes = s := ⟨_, rfl⟩
          obtain ⟨s2, hs2⟩ : ∃ s, b.bytes = s := ⟨_, rfl⟩
          obtain ⟨mx, hmm⟩ : ∃ n, x.most m = n := ⟨_, rfl⟩
          rw [hs1] at HM1 za
          rw [hs2] at HM2 zb
          rw [hmm, ← za, ← zb] at hmx
          have HMX := Aside0.mk hmm
          have hmx2 : max (s1.size : Int) (s2.size : Int) = (mx : Int) := by omega
          clear hco sa sb ra rb ca cb za zb hmx hs1 hs2 hmm
          have JJ := (H6.out.1.below (Below.refl _ _).drew)
          have HCU := Aside0.mk H6.out.2
          clear H6
          refine start_ (n := 8) (S := fun W' => RsL w x a b p (p + 1) W') (ds := []) #[false, false, false, false, false, false, false, false] (by kernel_rfl) rfl rfl JJ (fun hHeld => ?_)
          refine with_tabW refSplit.tab14 refSplit.bits14 (fun HT_ HW_ => ?_)
          generalize W6.drew = wd at hHeld ⊢
          refine take_ (i := 0) (N := some 57) (v := ?_) (a' := ?_) #[true, false, false, false, false, false, false, false] rfl rfl (take_ofW HT_.out HW_.out (by kernel_rfl)) (fun _ _ _ h => h) (Or.inl ⟨by rfl, ?_⟩) hHeld ?_ ?_; rotate_left; (intro w' hS; have q0 := blk_cell hS.b3 0; have q1 := blk_cell hS.b3 1; have q2 := blk_cell hS.b3 2; go_simp; with_reducible rfl); rotate_left; (simp only [Act.put, List.setIfInBounds_toArray, List.set_cons_zero, List.set_cons_succ, i64_w, i32_w]; rfl)
          refine take_ (i := 3) (N := some 60) (v := ?_) (a' := ?_) #[true, false, false, true, false, false, false, false] rfl rfl (take_ofW HT_.out HW_.out (by kernel_rfl)) (fun _ _ _ h => h) (Or.inl ⟨by rfl, ?_⟩) hHeld ?_ ?_; rotate_left; (intro w' hS; have q0 := blk_cell hS.b4 0; have q1 := blk_cell hS.b4 1; have q2 := blk_cell hS.b4 2; go_simp; with_reducible rfl); rotate_left; (simp only [Act.put, List.setIfInBounds_toArray, List.set_cons_zero, List.set_cons_succ, i64_w, i32_w]; rfl)
          refine one_ (i := 1) (N := some 58) #[true, true, false, true, false, false, false, false] rfl rfl (one_of HT_.out (by kernel_rfl)) (by decide) (fun K hK => ?_)
          refine goes_ Try.func37 (by kernel_rfl) rfl #[.agg #[a.v0, a.v1, a.v2]] (by rfl) rfl rfl (by (try simp only [List.map_toArray, List.map_cons, List.map_nil]); first | done | rfl) ?_
          refine (HM1.out _ hHeld).mono ?_
          rintro e w7 ⟨rfl, hb⟩
          refine ⟨_, rfl, ?_⟩
          refine hK.out _ _ (hHeld.below hb) (fun hHeld => ?_)
          clear hb
          clear hK K
          refine norm_ (a' := ?_) ?_ ?_; rotate_left; (show Act.put _ (some 58) _ = _; simp only [Act.put, List.setIfInBounds_toArray, List.set_cons_zero, List.set_cons_succ, i64_w, i32_w]; rfl)
          refine pure_ (i := 2) (N := some 59) (v := ?_) (a' := ?_) #[true, true, true, true, false, false, false, false] rfl rfl (any_of HT_.out (by kernel_rfl)) (fun _ _ _ h => h) (Or.inl ⟨by rfl, ?_⟩) ?_ ?_; rotate_left; (intro w'; go_simp; with_reducible rfl); rotate_left; (simp only [Act.put, List.setIfInBounds_toArray, List.set_cons_zero, List.set_cons_succ, i64_w, i32_w]; rfl)
          refine one_ (i := 4) (N := some 61) #[true, true, true, true, true, false, false, false] rfl rfl (one_of HT_.out (by kernel_rfl)) (by decide) (fun K hK => ?_)
          refine goes_ Try.func37 (by kernel_rfl) rfl #[.agg #[b.v0, b.v1, b.v2]] (by rfl) rfl rfl (by (try simp only [List.map_toArray, List.map_cons, List.map_nil]); first | done | rfl) ?_
          refine (HM2.out _ hHeld).mono ?_
          rintro e w8 ⟨rfl, hb⟩
          refine ⟨_, rfl, ?_⟩
          refine hK.out _ _ (hHeld.below hb) (fun hHeld => ?_)
          clear hb
          clear hK K
          refine norm_ (a' := ?_) ?_ ?_; rotate_left; (show Act.put _ (some 61) _ = _; simp only [Act.put, List.setIfInBounds_toArray, List.set_cons_zero, List.set_cons_succ, i64_w, i32_w]; rfl)
          refine pure_ (i := 5) (N := some 62) (v := ?_) (a' := ?_) #[true, true, true, true, true, true, false, false] rfl rfl (any_of HT_.out (by kernel_rfl)) (fun _ _ _ h => h) (Or.inl ⟨by rfl, ?_⟩) ?_ ?_; rotate_left; (intro w'; go_simp; with_reducible rfl); rotate_left; (simp only [Act.put, List.setIfInBounds_toArray, List.set_cons_zero, List.set_cons_succ, i64_w, i32_w]; rfl)
          refine pure_ (i := 6) (N := some 63) (v := ?_) (a' := ?_) #[true, true, true, true, true, true, true, false] rfl rfl (any_of HT_.out (by kernel_rfl)) (fun _ _ _ h => h) (Or.inl ⟨by rfl, ?_⟩) ?_ ?_; rotate_left; (intro w'; go_simp; with_reducible rfl); rotate_left; (simp only [Act.put, List.setIfInBounds_toArray, List.set_cons_zero, List.set_cons_succ, i64_w, i32_w]; rfl)
          refine pure_ (i := 7) (N := some 15) (v := ?_) (a' := ?_) #[true, true, true, true, true, true, true, true] rfl rfl (any_of HT_.out (by kernel_rfl)) (fun _ _ _ h => h) (Or.inl ⟨by rfl, ?_⟩) ?_ ?_; rotate_left; (intro w'; go_simp; with_reducible rfl); rotate_left; (simp only [Act.put, List.setIfInBounds_toArray, List.set_cons_zero, List.set_cons_succ, i64_w, i32_w]; rfl)
          refine done_ (done_of HT_.out (by kernel_rfl)) ?_
          by_cases hbn : bn = 0
          · have hfirst : m = least := by
              rcases hbt.out with h | ⟨d, _, h, _⟩
              · exact h.1
              · have := (bestN_in x.most x.least d).1
                have h3 := HSM.out.2.1
                unfold Nd.best at h
                omega
            have HF := Aside0.mk hfirst
            subst hbn
            clear hfirst
            go_wp2
            refine ⟨⟨m, mx, m + 1, rfl, rfl, by go_num, by omega, by omega, Aside0.mk (.inr ⟨0, by have := HF.out; omega, ?_, ?_⟩), Aside0.mk hHeld.i⟩, by simp [intOf]; omega⟩
            · rw [show x.best 0 = x.least from rfl, HSM.out.2.1]
              exact HF.out
            · rw [show x.best 0 = x.least from rfl, HSM.out.2.1, ← HMX.out, HF.out]
          · have hlater : ∃ d, m = least + 1 + d ∧ bn = x.best d ∧ tn = x.most (x.best d) := by
              rcases hbt.out with h | h
              · exact absurd h.2.1 hbn
              · exact h
            obtain ⟨d, hd1, hd2, hd3⟩ := hlater
            have hnext : x.best (d + 1) = if mx < tn then m else bn := by
              rw [hd2, hd3, ← HMX.out, hd1]
              unfold Nd.best
              rw [HSM.out.2.1]
              rfl
            have HD := Aside0.mk (And.intro hd1 (And.intro hd2 (And.intro hd3 hnext)))
            have hbn' : ¬ (bn : Int) = 0 := by omega
            clear hd1 hd2 hd3 hnext hbn
            by_cases hpp : (mx : Int) < (tn : Int)
            · go_wp2
              refine ⟨⟨m, mx, m + 1, rfl, rfl, by go_num, by omega, by omega, Aside0.mk (.inr ⟨d + 1, by have := HD.out.1; omega, ?_, ?_⟩), Aside0.mk hHeld.i⟩, by simp [intOf]; omega⟩
              · rw [HD.out.2.2.2, if_pos (by omega)]
              · rw [HD.out.2.2.2, if_pos (by omega), HMX.out]
            · go_wp2
              refine ⟨⟨bn, tn, m + 1, rfl, rfl, by go_num, by omega, by omega, Aside0.mk (.inr ⟨d + 1, by have := HD.out.1; omega, ?_, ?_⟩), Aside0.mk hHeld.i⟩, by simp [intOf]; omega⟩
              · rw [HD.out.2.2.2, if_neg (by omega)]
              · rw [HD.out.2.2.2, if_neg (by omega), HD.out.2.1]
                exact HD.out.2.2.1
        · have i3 : ¬ (m : Int) ≤ (count : Int) - (least : Int) := by omega
          obtain ⟨d, hd1, hd2, hd3⟩ : ∃ d, m = least + 1 + d ∧ bn = x.best d ∧ tn = x.most (x.best d) := by
            rcases hbt.out with h | h
            · exact absurd h.1 (by omega)
            · exact h
          have hbi := bestN_in x.most x.least d
          have hB1 : least ≤ bn := by rw [hd2]; unfold Nd.best; have := HSM.out.2.1; omega
          have hB2 : bn + least ≤ count := by rw [hd2]; unfold Nd.best; have := HSM.out.2.1; omega
          have hdd : d = count - 2 * least := by omega
          have HD := Aside0.mk (And.intro hd2 hdd)
          clear hd1 hd2 hd3 hdd hbi hbt
          have r0 : wr.cell? ⟨w.heap.size, 0, none⟩ = some x.v0 := blk_cell HI.out.b0 0
          have r1 : wr.cell? ⟨w.heap.size, 1, none⟩ = some x.v1 := blk_cell HI.out.b0 1
          have r2 : wr.cell? ⟨w.heap.size, 2, none⟩ = some x.v2 := blk_cell HI.out.b0 2
          go_wp2_with (go_at_call 52; refine (HC'.out bn _ HI.out.bel hB1 hB2).mono ?_; rintro e w5 ⟨a, b, key, rfl, oa, ob, hcut, hb5⟩
                       have H5 := Aside0.mk (And.intro oa (And.intro ob (And.intro hcut hb5)))
                       clear oa ob hcut hb5)
          obtain ⟨p, hp⟩ : ∃ n, w5.heap.size = n := ⟨_, rfl⟩
          obtain ⟨W6, hW6⟩ : ∃ W6, (w5.alloc (.cells #[a.v0, a.v1, a.v2] 26)).alloc (.cells #[b.v0, b.v1, b.v2] 26) = W6 := ⟨_, rfl⟩
          have H6 : Aside0 (RsL w x a b p (p + 1) W6 ∧ CutIs x bn a b key ∧ w.heap.size + 3 ≤ p) := Aside0.mk (by
            obtain ⟨oa, ob, hcut, hb5⟩ := H5.out
            rw [← hW6, ← hp]
            exact ⟨rsl_new HI.out oa ob hb5, hcut, Nat.le_trans HI.out.le hb5.size⟩)
          rw [hW6, hp]
          clear H5 hW6 hp r0 r1 r2 i3
          have JL := (H6.out.1.below (Below.refl _ _).drew)
          have JJ : RsJ w a b p (p + 1) W6.drew := ⟨⟨_, _, _, JL.i.b1⟩, ⟨_, _, _, JL.i.b2⟩, JL.b3, JL.b4, JL.oa, JL.ob, JL.i.bel, H6.out.2.2, by have := H6.out.2.2; omega⟩
          have HCU := Aside0.mk H6.out.2.1
          clear H6 JL
          refine start_ (n := 7) (S := fun W' => RsJ w a b p (p + 1) W') (ds := []) #[false, false, false, false, false, false, false] (by kernel_rfl) rfl rfl JJ (fun hHeld => ?_)
          refine with_tabW refSplit.tab19 refSplit.bits19 (fun HT_ HW_ => ?_)
          generalize W6.drew = wd at hHeld ⊢
          refine take_ (i := 0) (N := some 80) (v := ?_) (a' := ?_) #[true, false, false, false, false, false, false] rfl rfl (take_ofW HT_.out HW_.out (by kernel_rfl)) (fun _ _ _ h => h) (Or.inl ⟨by rfl, ?_⟩) hHeld ?_ ?_; rotate_left; (intro w' hS; have q0 := blk_cell hS.b3 0; have q1 := blk_cell hS.b3 1; have q2 := blk_cell hS.b3 2; go_simp; with_reducible rfl); rotate_left; (simp only [Act.put, List.setIfInBounds_toArray, List.set_cons_zero, List.set_cons_succ, i64_w, i32_w]; rfl)
          refine pure_ (i := 1) (N := some 81) (v := ?_) (a' := ?_) #[true, true, false, false, false, false, false] rfl rfl (any_of HT_.out (by kernel_rfl)) (fun _ _ _ h => h) (Or.inl ⟨by rfl, ?_⟩) ?_ ?_; rotate_left; (intro w'; go_simp; with_reducible rfl); rotate_left; (simp only [Act.put, List.setIfInBounds_toArray, List.set_cons_zero, List.set_cons_succ, i64_w, i32_w]; rfl)
          refine take_ (i := 2) (N := some 82) (v := ?_) (a' := ?_) #[true, true, true, false, false, false, false] rfl rfl (take_ofW HT_.out HW_.out (by kernel_rfl)) (fun _ _ _ h => h) (Or.inl ⟨by rfl, ?_⟩) hHeld ?_ ?_; rotate_left; (intro w' hS; have q0 := blk_cell hS.b4 0; have q1 := blk_cell hS.b4 1; have q2 := blk_cell hS.b4 2; go_simp; with_reducible rfl); rotate_left; (simp only [Act.put, List.setIfInBounds_toArray, List.set_cons_zero, List.set_cons_succ, i64_w, i32_w]; rfl)
          refine one_ (i := 3) (N := none) #[true, true, true, true, false, false, false] rfl rfl (one_of HT_.out (by kernel_rfl)) (by decide) (fun K hK => ?_)
          obtain ⟨z0, z1, z2, h1⟩ := hHeld.b1
          have p0 : wd.cell? ⟨w.heap.size + 1, 0, none⟩ = some z0 := blk_cell h1 0
          have p1 : wd.cell? ⟨w.heap.size + 1, 1, none⟩ = some z1 := blk_cell h1 1
          have p2 : wd.cell? ⟨w.heap.size + 1, 2, none⟩ = some z2 := blk_cell h1 2
          have f0 : wd.frozen? ⟨w.heap.size + 1, 0, none⟩ = false := blk_frozen h1 0
          have f1 : wd.frozen? ⟨w.heap.size + 1, 1, none⟩ = false := blk_frozen h1 1
          have f2 : wd.frozen? ⟨w.heap.size + 1, 2, none⟩ = false := blk_frozen h1 2
          refine skip_ (w1 := ?_) (by rfl) rfl ?_ ?_
          rotate_left
          · go_simp
            rfl
          clear p0 p1 p2 f0 f1 f2
          refine hK.out _ _ hHeld.set1 (fun hHeld => ?_)
          clear hK K
          have h1' := blk_set3 (u0 := a.v0) (u1 := a.v1) (u2 := a.v2) h1
          clear h1
          generalize (((wd.setCell ⟨w.heap.size + 1, 0, none⟩ a.v0).setCell ⟨w.heap.size + 1, 1, none⟩ a.v1).setCell ⟨w.heap.size + 1, 2, none⟩ a.v2) = we at hHeld h1' ⊢
          refine pure_ (i := 4) (N := some 3) (v := ?_) (a' := ?_) #[true, true, true, true, true, false, false] rfl rfl (any_of HT_.out (by kernel_rfl)) (fun _ _ _ h => h) (Or.inl ⟨by rfl, ?_⟩) ?_ ?_; rotate_left; (intro w'; go_simp; with_reducible rfl); rotate_left; (simp only [Act.put, List.setIfInBounds_toArray, List.set_cons_zero, List.set_cons_succ, i64_w, i32_w]; rfl)
          refine one_ (i := 5) (N := none) #[true, true, true, true, true, true, false] rfl rfl (one_of HT_.out (by kernel_rfl)) (by decide) (fun K hK => ?_)
          obtain ⟨z0, z1, z2, h2⟩ := hHeld.b2
          have p0 : we.cell? ⟨w.heap.size + 1 + 1, 0, none⟩ = some z0 := blk_cell h2 0
          have p1 : we.cell? ⟨w.heap.size + 1 + 1, 1, none⟩ = some z1 := blk_cell h2 1
          have p2 : we.cell? ⟨w.heap.size + 1 + 1, 2, none⟩ = some z2 := blk_cell h2 2
          have f0 : we.frozen? ⟨w.heap.size + 1 + 1, 0, none⟩ = false := blk_frozen h2 0
          have f1 : we.frozen? ⟨w.heap.size + 1 + 1, 1, none⟩ = false := blk_frozen h2 1
          have f2 : we.frozen? ⟨w.heap.size + 1 + 1, 2, none⟩ = false := blk_frozen h2 2
          refine skip_ (w1 := ?_) (by rfl) rfl ?_ ?_
          rotate_left
          · go_simp
            rfl
          clear p0 p1 p2 f0 f1 f2
          refine hK.out _ _ hHeld.set2 (fun hHeld => ?_)
          clear hK K
          have h1'' := blk_far3 (g := w.heap.size + 1 + 1) (u0 := b.v0) (u1 := b.v1) (u2 := b.v2) h1' (by omega)
          have h2'' := blk_set3 (u0 := b.v0) (u1 := b.v1) (u2 := b.v2) h2
          clear h1' h2
          refine pure_ (i := 6) (N := some 5) (v := ?_) (a' := ?_) #[true, true, true, true, true, true, true] rfl rfl (any_of HT_.out (by kernel_rfl)) (fun _ _ _ h => h) (Or.inl ⟨by rfl, ?_⟩) ?_ ?_; rotate_left; (intro w'; go_simp; with_reducible rfl); rotate_left; (simp only [Act.put, List.setIfInBounds_toArray, List.set_cons_zero, List.set_cons_succ, i64_w, i32_w]; rfl)
          refine done_ (done_of HT_.out (by kernel_rfl)) ?_
          go_wp2
          refine bodyPost_ret (results_list (rs := [.cell 2 26, .tmp 3, .cell 4 26, .tmp 5]) rfl (by simp) (.cell (w.heap.size + 1) 26 #[a.v0, a.v1, a.v2] (0, 0) _ rfl h1'' Try.underlying26 rfl (by kernel_rfl) (.tmp (.cell (w.heap.size + 1 + 1) 26 #[b.v0, b.v1, b.v2] (0, 0) _ rfl h2'' Try.underlying26 rfl (by kernel_rfl) (.tmp .nil))))) rfl ?_
          refine ⟨a, b, key, 0, rfl, hHeld.oa.at_, hHeld.ob.at_, ?_, hHeld.bel⟩
          have hc := HCU.out
          unfold CutIs at hc
          rw [HD.out.1, HD.out.2] at hc
          unfold SplitIs splitR
          rw [if_pos ⟨HRR.out, by rw [HSM.out.2.1, HSM.out.2.2.1]; exact hle⟩, HSM.out.2.1, HSM.out.2.2.1, ← hc]
end Go.Proofs.Ytejempihaknplaa.G
