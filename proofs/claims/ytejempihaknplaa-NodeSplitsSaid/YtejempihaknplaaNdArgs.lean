/- Arguments that are nodes and pairs: what they are. No condition. The row's last step behind a call that leaves whatever lay as it lay ('Below'), whatever it has made or frozen. No condition. -/
import Derived.Test.YtejempihaknplaaNdM
import Derived.Carry
import Derived.WideKeyArgs
import Derived.Lib.SmallJoins
import Derived.Deep.Slices
import Derived.Deep.Fields
import Derived.ChangeSlices
import Derived.SliceStrings
import Derived.Below
import Derived.ChangeSame
import Derived.ProofKit
namespace Go.Proofs.Ytejempihaknplaa.G
open Go.RowKit Go.ChangeShapes Go.WideShapes Go.Joins Go.Deep Go.Proofs.YtejempihaknplaaW.PrintWords
section
variable {H : Type} {enc : TypeId × Value → H} {w : World} {base : Nat} {spare : Nat → Bool} {held : Bool}

theorem open_slice_fields {P : Program} {t e : TypeId} {fs : Array Field} {fuel : Nat} {cs : List Value} {x : DataW H × List MemPlace} (ht : P.underlying t = some (.slice e)) (he : P.underlying e = some (.struct fs))
    (hone : oneCellFields P fs = true) (hC : P.cellsOf e = fs.size) (h : DataW.trod enc P w base spare held fuel t cs = some x) :
    (cs = [.slice none 0 0] ∧ x = (.nil, [])) ∨
    ∃ (a : Addr) (len cap m : Nat) (D : Nat → DataW H) (Pl : Nat → List MemPlace), cs = [.slice (some a) len cap] ∧ base ≤ a.block ∧ len ≤ cap ∧ cap ≤ maxLen ∧ m = (if spare a.block then cap else len) ∧
      x = (.slice ((List.range len).map D) ((List.range (m - len)).map fun j => D (len + j)), MemPlace.row a (m * fs.size) ++ (List.range m).flatMap Pl) ∧
      ∀ i, i < m → ∃ (ys : List (DataW H × List MemPlace)) (n : Nat), D i = .agg (ys.map (·.1)) ∧ Pl i = ys.flatMap (·.2) ∧ ys.length = fs.size ∧
        ∀ (j : Nat) (f : Field), fs[j]? = some f → ∃ (v : Value) (y : DataW H × List MemPlace), w.cell? (a.add (i * fs.size + j)) = some v ∧ ys[j]? = some y ∧ DataW.trod enc P w base spare held n f.type [v] = some y := by
  rcases open_slice ht h with h0 | ⟨a, len, cap, m, n, D, Pl, hcs, hb, hl, hm, hmm, hx, hi⟩
  · exact .inl h0
  · refine .inr ⟨a, len, cap, m, D, Pl, hcs, hb, hl, hm, hmm, by rw [hC] at hx; exact hx, fun i him => ?_⟩
    obtain ⟨cs', hc, ht'⟩ := hi i him
    rw [hC] at hc
    obtain ⟨ys, n', hn', hy, hlen, hyl, hf⟩ := DataW.trod_struct he ht'
    obtain ⟨_, hcl, hat⟩ := World.cells?_some hc
    simp only [Prod.mk.injEq] at hy
    refine ⟨ys, n', hy.1, hy.2, hyl, fun j f hj => ?_⟩
    obtain ⟨ho, hk⟩ := hone_of hone j f hj
    have hjl : j < fs.size := (Array.getElem?_eq_some_iff.1 hj).1
    have hcell := hat j hjl
    have hv : cs'[j]? = some (cs'[j]'(by omega)) := List.getElem?_eq_getElem (by omega)
    have h1 := hf j f hj
    rw [ho, hk] at h1
    have hone' : (cs'.drop j).take 1 = [cs'[j]'(by omega)] := by
      rw [List.drop_eq_getElem_cons (by omega)]
      rfl
    rw [hone'] at h1
    have hys : ys[j]? = some (ys[j]'(by omega)) := List.getElem?_eq_getElem (by omega)
    refine ⟨_, _, ?_, hys, h1.trans hys⟩
    rw [← Go.Deep.add_add, hcell, hv]

theorem list_of {α : Type} : ∀ (n : Nat) (R : Nat → α → Prop), (∀ k, k < n → ∃ x, R k x) → ∃ xs : List α, xs.length = n ∧ ∀ k x, xs[k]? = some x → R k x
  | 0, _, _ => ⟨[], rfl, by intro k x hk; simp at hk⟩
  | n + 1, R, h => by
    obtain ⟨x0, h0⟩ := h 0 (by omega)
    obtain ⟨xs, h1, h2⟩ := list_of n (fun k => R (k + 1)) (fun k hk => h (k + 1) (by omega))
    refine ⟨x0 :: xs, by simp [h1], ?_⟩
    intro k x hk
    cases k with
    | zero => simp at hk; subst hk; exact h0
    | succ k => exact h2 k x (by simpa using hk)

theorem pairs_C {fuel : Nat} {v : Value} {x : DataW H × List MemPlace} (h : DataW.trod enc Try.prog w 0 (fun _ => true) held fuel 22 [v] = some x) :
    ∃ (A : Option Addr) (c : Nat) (l : List S39), v = .slice A l.length c ∧ l.length ≤ c ∧ Kd.C k39 w A l.length l := by
  rcases open_slice_fields Try.underlying22 Try.underlying39 (by kernel_rfl) (by kernel_rfl) h with ⟨hcs, _⟩ | ⟨a, len, c, m, D, Pl, hcs, hb, hl, hm, hmm, _, hF⟩
  · obtain rfl := (List.cons.inj hcs).1
    exact ⟨none, 0, [], rfl, Nat.le_refl _, rfl, by simp, fun h => absurd h (by simp)⟩
  · obtain rfl := (List.cons.inj hcs).1
    have hlm : len ≤ m := by rw [hmm]; simp; omega
    have one : ∀ k, k < len → ∃ p : S39, w.cell? (a.add (k * 2)) = some (.string p.f0) ∧ w.cell? (a.add (k * 2 + 1)) = some (.string p.f1) := by
      intro k hk
      obtain ⟨ys, fu, _, _, _, hfk⟩ := hF k (by omega)
      obtain ⟨v0, y0, c0, _, t0⟩ := hfk 0 _ rfl
      obtain ⟨v1, y1, c1, _, t1⟩ := hfk 1 _ rfl
      obtain ⟨z0, e0, _, w0⟩ := DataW.trod_string Try.underlying9 t0
      obtain ⟨z1, e1, _, w1⟩ := DataW.trod_string Try.underlying9 t1
      obtain rfl := (List.cons.inj e0).1
      obtain rfl := (List.cons.inj e1).1
      exact ⟨⟨z0, z1⟩, c0, c1⟩
    obtain ⟨l, h1, h2⟩ := list_of len (fun k (p : S39) => w.cell? (a.add (k * 2)) = some (.string p.f0) ∧ w.cell? (a.add (k * 2 + 1)) = some (.string p.f1)) one
    subst h1
    refine ⟨some a, c, l, rfl, hl, rfl, by unfold maxLen at hm; omega, fun _ => ⟨a, rfl, fun j p hj => ⟨[.string p.f0, .string p.f1], rfl, k39_mk w p, fun i u hu => ?_⟩⟩⟩
    obtain ⟨q0, q1⟩ := h2 j p hj
    match i, hu with
    | 0, hu => simp at hu; subst hu; exact q0
    | 1, hu => simp at hu; subst hu; exact q1
theorem texts_C {fuel : Nat} {v : Value} {x : DataW H × List MemPlace} (h : DataW.trod enc Try.prog w 0 (fun _ => true) held fuel 23 [v] = some x) :
    ∃ (A : Option Addr) (c : Nat) (l : List ByteArray), v = .slice A l.length c ∧ l.length ≤ c ∧ Kd.C Kd.string w A l.length l := by
  rcases open_strings Try.underlying23 Try.underlying9 (by kernel_rfl) h with ⟨hcs, _⟩ | ⟨a, len, c, ss, hcs, hb, hl, hm, hz, _, hcell, _⟩
  · obtain rfl := (List.cons.inj hcs).1
    exact ⟨none, 0, [], rfl, Nat.le_refl _, rfl, by simp, fun h => absurd h (by simp)⟩
  · obtain rfl := (List.cons.inj hcs).1
    simp at hz
    have hlen : (ss.take len).length = len := by rw [List.length_take]; omega
    refine ⟨some a, c, ss.take len, by rw [hlen], by omega, rfl, by unfold maxLen at hm; omega, fun _ => ⟨a, rfl, fun j p hj => ⟨[.string p], rfl, rfl, fun i u hu => ?_⟩⟩⟩
    have hj2 := (List.getElem?_eq_some_iff.1 hj).1
    rw [hlen] at hj2
    rw [List.getElem?_take_of_lt hj2] at hj
    have hc := hcell j (by omega)
    rw [List.getD_eq_getElem?_getD, hj] at hc
    match i, hu with
    | 0, hu =>
      simp at hu; subst hu
      show w.cell? (a.add (j * 1 + 0)) = _
      rw [Nat.mul_one, Nat.add_zero]
      exact hc
theorem kids_C {fuel : Nat} {v : Value} {x : DataW H × List MemPlace} (h : DataW.trod enc Try.prog w 0 (fun _ => true) held fuel 24 [v] = some x) :
    ∃ (A : Option Addr) (c : Nat) (l : List Int), v = .slice A l.length c ∧ l.length ≤ c ∧ Kd.C (Kd.int .u32) w A l.length l := by
  rcases open_ints Try.underlying24 Try.underlying65 (by kernel_rfl) h with ⟨hcs, _⟩ | ⟨a, len, c, ss, hcs, hb, hl, hm, hz, _, hcell, _⟩
  · obtain rfl := (List.cons.inj hcs).1
    exact ⟨none, 0, [], rfl, Nat.le_refl _, rfl, by simp, fun h => absurd h (by simp)⟩
  · obtain rfl := (List.cons.inj hcs).1
    simp at hz
    have hlen : (ss.take len).length = len := by rw [List.length_take]; omega
    refine ⟨some a, c, ss.take len, by rw [hlen], by omega, rfl, by unfold maxLen at hm; omega, fun _ => ⟨a, rfl, fun j p hj => ⟨[.int .u32 p], rfl, rfl, fun i u hu => ?_⟩⟩⟩
    have hj2 := (List.getElem?_eq_some_iff.1 hj).1
    rw [hlen] at hj2
    rw [List.getElem?_take_of_lt hj2] at hj
    have hc := hcell j (by omega)
    rw [List.getD_eq_getElem?_getD, hj] at hc
    match i, hu with
    | 0, hu =>
      simp at hu; subst hu
      show w.cell? (a.add (j * 1 + 0)) = _
      rw [Nat.mul_one, Nat.add_zero]
      exact hc

set_option maxRecDepth 100000 in
/-- A node among arguments. -/
theorem node_of {r : Reach} {b0 : Nat} {v : Value} {d : DataW H} {p : List MemPlace} (hv : Value.okWide Try.prog w r b0 26 v) (h : DataW.Trod enc Try.prog w 0 (fun _ => true) held 26 v d p) :
    ∃ (A0 : Option Addr) (c0 : Nat) (l0 : List S39) (A1 : Option Addr) (c1 : Nat) (l1 : List ByteArray) (A2 : Option Addr) (c2 : Nat) (l2 : List Int), v = .agg #[.slice A0 l0.length c0, .slice A1 l1.length c1, .slice A2 l2.length c2] ∧
      (Kd.C k39 w A0 l0.length l0 ∧ l0.length ≤ c0 ∧ Kd.C Kd.string w A1 l1.length l1 ∧ l1.length ≤ c1 ∧ Kd.C (Kd.int .u32) w A2 l2.length l2 ∧ l2.length ≤ c2) := by
  obtain ⟨v0, v1, v2, y0, y1, y2, n, rfl, rfl, rfl, g0, g1, g2⟩ := open_agg3 Try.underlying26 (by kernel_rfl) (by kernel_rfl) hv h
  obtain ⟨A0, c0, l0, rfl, h1, h2⟩ := pairs_C g0
  obtain ⟨A1, c1, l1, rfl, h3, h4⟩ := texts_C g1
  obtain ⟨A2, c2, l2, rfl, h5, h6⟩ := kids_C g2
  exact ⟨A0, c0, l0, A1, c1, l1, A2, c2, l2, rfl, h2, h1, h4, h3, h6, h5⟩
end
theorem laid : laidOutB Try.prog = true := by kernel_rfl
end Go.Proofs.Ytejempihaknplaa.G

namespace Go.Proofs.Ytejempihaknplaa
open Go.RowKit Go.WideShapes Go.ChangeShapes
section
variable {H : Type} {enc : TypeId × Value → H} {P : Program}
theorem post_of_below {f : Func} {s : ChangeSpec} {apart fresh handsOn again : Bool} {W W' : World} {args : Array Value} {v : Value} {ds gs : List (DataW H)} {before pa pv : List MemPlace}
    (hW : DataW.Whole enc P f.params.toList s.vars apart W args.toList ds gs before)
    (hres : ∀ (b : Nat) (sp : Nat → Bool) (hd : Bool), DataW.TrodAll enc P W' b sp hd f.resultTypes.toList (v.resultList f.resultTypes.size) (s.fn H (ds ++ gs)).results [])
    (hargs : ∀ sp : Nat → Bool, (∀ p ∈ before, sp p.block = true) → DataW.TrodAll enc P W' 0 sp true f.params.toList args.toList (s.fn H (ds ++ gs)).args pa)
    (hvars : ∀ sp : Nat → Bool, (∀ p ∈ before, sp p.block = true) → DataW.TrodVars enc P W' sp s.vars (s.fn H (ds ++ gs)).vars pv)
    (hps : before = pa ++ pv) (hb : Below W.heap.size W W')
    (hok : ∀ (j : Nat) (t : TypeId) (r : Value), f.resultTypes[j]? = some t → (v.resultList f.resultTypes.size)[j]? = some r → Value.okWide P W' .any 0 t r) :
    s.post enc P f apart fresh handsOn again W args v W' := by
  have hlt : ∀ p ∈ before, p.block < W.heap.size := fun p hp => hW.lt p hp
  have hold : ∀ p ∈ before, (fun b => decide (b < W.heap.size)) p.block = true := fun p hp => by simpa using hlt p hp
  refine ⟨ds, gs, before, [], pa, pv, hW, hres _ _ _, hargs _ hold, hvars _ hold, World.keptBut_mono (fun p hp => ⟨hp, ?_⟩) (hb.frame (· ∈ before)), fun _ => ?_⟩
  · rw [hps, List.mem_append] at hp
    exact Or.inr hp
  · obtain ⟨_, _, _, _, _, hz, hn⟩ := hW
    refine ⟨hok, _, _, ([] ++ pa) ++ pv, ⟨[] ++ pa, pv, trodAll_append (hargs _ (fun _ _ => rfl)) (hres _ _ _), hvars _ (fun _ _ => rfl), rfl, ?_, ?_⟩, ?_⟩
    · intro b off hp
      have hin : MemPlace.cell b off ∈ before := by rw [hps]; simpa using hp
      rw [hb.frozen (hlt _ hin)]
      exact hz b off hin
    · intro ha
      have := hn ha
      rw [hps] at this
      simpa using this
    · intro p hp _
      rw [hps]
      simpa using hp
end
end Go.Proofs.Ytejempihaknplaa
