/- Contract by hand of package node's Delete: the clone's row is written in place (DeleteFunc), at most one pair goes. -/
import Derived.Test.YtejempihaknplaaNdA
import Derived.Lib.SliceRun
import Derived.Deep.RegionHeld3
namespace Go.Proofs.Ytejempihaknplaa.G
open Go.RowKit Go.Proofs.YtejempihaknplaaW.PrintWords Go.Proofs.YtejempihaknplaaW.PrintLast Go.Proofs.YtejempihaknplaaW.PrintMore
set_option linter.unusedVariables false

/-! ### rows of pairs -/
def cellsP (l : List S39) : List Value := l.flatMap fun p => [.string p.f0, .string p.f1]
theorem cellsP_cons (p : S39) (l : List S39) : cellsP (p :: l) = .string p.f0 :: .string p.f1 :: cellsP l := rfl
theorem cellsP_append (a b : List S39) : cellsP (a ++ b) = cellsP a ++ cellsP b := by simp [cellsP]
theorem cellsP_length : ∀ l : List S39, (cellsP l).length = l.length * 2
  | [] => rfl
  | p :: l => by rw [cellsP_cons, List.length_cons, List.length_cons, cellsP_length l, List.length_cons]; omega
theorem cellsP_get0 : ∀ (l : List S39) (j : Nat) (h : j < l.length), (cellsP l)[2 * j]? = some (.string l[j].f0)
  | p :: l, 0, _ => rfl
  | p :: l, j + 1, h => by
    rw [cellsP_cons, show 2 * (j + 1) = 2 * j + 1 + 1 by omega, List.getElem?_cons_succ, List.getElem?_cons_succ, cellsP_get0 l j (by simpa using h)]
    rfl
theorem cellsP_get1 : ∀ (l : List S39) (j : Nat) (h : j < l.length), (cellsP l)[2 * j + 1]? = some (.string l[j].f1)
  | p :: l, 0, _ => rfl
  | p :: l, j + 1, h => by
    rw [cellsP_cons, show 2 * (j + 1) + 1 = 2 * j + 1 + 1 + 1 by omega, List.getElem?_cons_succ, List.getElem?_cons_succ, cellsP_get1 l j (by simpa using h)]
    rfl
theorem cellsP_set : ∀ (l : List S39) (j : Nat) (p : S39), ((cellsP l).set (2 * j) (.string p.f0)).set (2 * j + 1) (.string p.f1) = cellsP (l.set j p)
  | [], _, _ => rfl
  | q :: l, 0, p => rfl
  | q :: l, j + 1, p => by
    rw [List.set_cons_succ, cellsP_cons, cellsP_cons, show 2 * (j + 1) + 1 = 2 * j + 1 + 1 + 1 by omega, show 2 * (j + 1) = 2 * j + 1 + 1 by omega, List.set_cons_succ, List.set_cons_succ, List.set_cons_succ, List.set_cons_succ, cellsP_set l j p]
theorem reps_cellsP {l : List S39} {cs : List Value} (h : Reps (fun x c => c = [.string x.f0, .string x.f1]) 2 l cs) : cs = cellsP l := by
  obtain ⟨hl, hr⟩ := h
  apply List.ext_getElem?
  intro i
  rcases Nat.lt_or_ge (i / 2) l.length with h1 | h1
  · have h2 := hr (i / 2) _ (List.getElem?_eq_getElem h1)
    have h3 : ∀ q, q < 2 → cs[i / 2 * 2 + q]? = ([Value.string l[i / 2].f0, .string l[i / 2].f1] : List Value)[q]? := by
      intro q hq
      rw [← h2, List.getElem?_take, if_pos hq, List.getElem?_drop]
    rcases Nat.mod_two_eq_zero_or_one i with h4 | h4
    · have h5 := h3 0 (by omega)
      rw [show i / 2 * 2 + 0 = i by omega] at h5
      have h6 := cellsP_get0 l (i / 2) h1
      rw [show 2 * (i / 2) = i by omega] at h6
      rw [h5, h6]
      rfl
    · have h5 := h3 1 (by omega)
      rw [show i / 2 * 2 + 1 = i by omega] at h5
      have h6 := cellsP_get1 l (i / 2) h1
      rw [show 2 * (i / 2) + 1 = i by omega] at h6
      rw [h5, h6]
      rfl
  · rw [List.getElem?_eq_none (by rw [hl]; omega), List.getElem?_eq_none (by rw [cellsP_length]; omega)]
theorem reps_of_cellsP : ∀ (l : List S39), Reps (fun x c => c = [.string x.f0, .string x.f1]) 2 l (cellsP l)
  | [] => Reps.none _ _
  | p :: l => Reps.c2 rfl (reps_of_cellsP l)
/-- A row of pairs of the call's own. -/
def RowP (w : World) (base : Nat) (v : Value) (l : List S39) : Prop := w.ownsRow base 39 2 v l.length (cellsP l)
theorem rowP_of {w : World} {base : Nat} {ok : Nat → Prop} {v : Value} {l : List S39} (h : Kd.R k39 39 w base ok v l) : RowP w base v l := by
  obtain ⟨_, inner, h1, h2⟩ := h
  have := reps_cellsP (h2.imp_ (fun x c hx => k39_openM hx))
  subst this
  exact h1
theorem RowP.to {w : World} {base : Nat} {v : Value} {l : List S39} (h : RowP w base v l) : Kd.R k39 39 w base (fun _ => True) v l :=
  ⟨fun _ _ => trivial, _, h, (reps_of_cellsP l).imp_ (fun x c hx => by rw [hx]; exact k39_mkM _ _ _ _)⟩
theorem RowP.reads {w : World} {base : Nat} {v : Value} {l : List S39} (h : RowP w base v l) : ∃ A c, v = .slice A l.length c ∧ l.length ≤ c ∧ Kd.C k39 w A l.length l := Kd.R_reads h.to
section
variable {w : World} {base g cap : Nat} {l : List S39}
theorem RowP.cells (h : RowP w base (.slice (some ⟨g, 0, none⟩) l.length cap) l) (j : Nat) (hj : j < l.length) : w.cell? ⟨g, j * 2, none⟩ = some (.string l[j].f0) ∧ w.cell? ⟨g, j * 2 + 1, none⟩ = some (.string l[j].f1) := by
  rw [Nat.mul_comm j 2, World.ownsRow.cellAt h (2 * j) (by omega), World.ownsRow.cellAt h (2 * j + 1) (by omega)]
  exact ⟨cellsP_get0 l j hj, cellsP_get1 l j hj⟩
theorem RowP.frozen (h : RowP w base (.slice (some ⟨g, 0, none⟩) l.length cap) l) (j : Nat) : w.frozen? ⟨g, j, none⟩ = false := World.ownsRow.frozenAt h j
theorem RowP.base_le (h : RowP w base (.slice (some ⟨g, 0, none⟩) l.length cap) l) : base ≤ g ∧ g < w.heap.size := World.ownsRow.lt h g rfl
theorem RowP.cap_le (h : RowP w base (.slice (some ⟨g, 0, none⟩) l.length cap) l) : l.length ≤ cap ∧ cap ≤ 9223372036854775807 := by
  rcases h.2 with ⟨h0, _⟩ | ⟨g', cap', cur, hv, _, _, h1, h2, _⟩
  · cases h0
  · cases hv
    exact ⟨h1, by simpa [maxLen] using h2⟩
theorem RowP.stored (h : RowP w base (.slice (some ⟨g, 0, none⟩) l.length cap) l) (j : Nat) (p : S39) :
    RowP ((w.setCell ⟨g, j * 2, none⟩ (.string p.f0)).setCell ⟨g, j * 2 + 1, none⟩ (.string p.f1)) base (.slice (some ⟨g, 0, none⟩) l.length cap) (l.set j p) := by
  rw [Nat.mul_comm j 2]
  have h1 := (World.ownsRow.stored h (2 * j) (.string p.f0)).1
  have h2 := (World.ownsRow.stored h1 (2 * j + 1) (.string p.f1)).1
  rw [cellsP_set] at h2
  unfold RowP
  rw [List.length_set]
  exact h2
theorem RowP.alloc (h : RowP w base (.slice (some ⟨g, 0, none⟩) l.length cap) l) (o : Obj) : RowP (w.alloc o) base (.slice (some ⟨g, 0, none⟩) l.length cap) l := World.ownsRow.alloc h o
end

theorem cell_new (w : World) (u : Value) (j : Nat) (cs : Array Value) (t : TypeId) (h : cs[j]? = some u) : (w.alloc (.cells cs t)).cell? ⟨w.heap.size, j, none⟩ = some u := by
  have h1 := Go.heap_alloc_new w (.cells cs t)
  unfold World.cell?
  rw [h1]
  exact h
/-! ### the closure, IndexFunc -/
def isK (key : ByteArray) (p : S39) : Bool := p.f0.toList == key.toList
set_option maxHeartbeats 400000 in
theorem del1_any (p0 p1 key : ByteArray) (K : Nat) (w : World) (hK : w.cell? ⟨K, 0, none⟩ = some (.string key)) :
    Calls Try.prog 49 #[.agg #[.string p0, .string p1], .pointer (some ⟨K, 0, none⟩)] w fun e w' => e = .returned (.bool (isK key ⟨p0, p1⟩)) ∧ w.alloc (.cells #[.string p0, .string p1] 39) = w' := by
  have hK1 : (w.alloc (.cells #[.string p0, .string p1] 39)).cell? ⟨K, 0, none⟩ = some (.string key) := Lib.cell?_alloc_some _ hK
  clear hK
  go_enter Try.func49, Try.ntmps49
  go_wp2
  go_ret
  exact ⟨rfl, rfl⟩

def Found (key : ByteArray) (l : List S39) (n : Int) : Prop := (∃ k : Nat, ∃ h : k < l.length, n = k ∧ isK key l[k] = true ∧ ∀ q (hq : q < l.length), q < k → isK key l[q] = false) ∨ (n = -1 ∧ ∀ q (hq : q < l.length), isK key l[q] = false)
set_option maxHeartbeats 1000000 in
theorem idxPair_any (A : Option Addr) (c : Nat) (l : List S39) (K : Nat) (key : ByteArray) (w : World) (hr : Kd.C k39 w A l.length l) (hK : w.cell? ⟨K, 0, none⟩ = some (.string key)) :
    Calls Try.prog 70 #[.slice A l.length c, .func (.func 49) #[] #[.pointer (some ⟨K, 0, none⟩)]] w fun e w' => (∃ n : Int, e = .returned (.int .i64 n) ∧ Found key l n) ∧ Below w.heap.size w w' := by
  have hlen := hr.2.1
  have HR := Lib.hid (And.intro hr hK)
  clear hr hK
  go_enter Try.func70, Try.ntmps70
  go_wp2
  go_loopw [8] (fun i wr => ∃ k : Nat, k ≤ l.length ∧ i = .int .i64 k ∧ Hid (∀ q (hq : q < l.length), q < k → isK key l[q] = false) ∧ Hid (Below w.heap.size w wr)) (fun i _ => l.length - (intOf i).toNat)
  case atStart => exact ⟨0, Nat.zero_le _, rfl, Lib.hid (fun q hq h => absurd h (Nat.not_lt_zero _)), Lib.hid (Below.refl _ _)⟩
  case round =>
    obtain ⟨k, hk, rfl, HQ, HB⟩ := hrel
    by_cases hlt : k < l.length
    · obtain ⟨ad, rfl, x0, x1⟩ := at_T39 (Kd.C_below HR.out.1 HB.out) (k : Int) (by omega) (by omega)
      rw [rdT_nat l k hlt, Int.toNat_natCast] at x0 x1
      obtain ⟨⟨p0, p1⟩, hp⟩ : ∃ p, l[k] = p := ⟨_, rfl⟩
      rw [hp] at x0 x1
      have HC := Lib.hid (del1_any p0 p1 key K wr ((HB.out.cell (World.block_lt_of_cell? w _ HR.out.2)).trans HR.out.2))
      have HP := Lib.hid hp
      clear hp
      cases hb : isK key ⟨p0, p1⟩ with
      | false =>
        rw [hb] at HC
        have HN := Lib.hid hb
        clear hb
        go_wp2_with (go_at_call 49; refine HC.out.mono ?_; rintro e w1 ⟨rfl, rfl⟩)
        go_roundw
        case rel =>
          refine ⟨k + 1, by omega, by go_num, Lib.hid (fun q hq h => ?_), Lib.hid (HB.out.alloc HB.out.size _)⟩
          rcases Nat.lt_or_ge q k with h1 | h1
          · exact HQ.out q hq h1
          · obtain rfl : q = k := by omega
            rw [HP.out]
            exact HN.out
        case measure => simp [intOf]; omega
      | true =>
        rw [hb] at HC
        have HN := Lib.hid hb
        clear hb
        go_wp2_with (go_at_call 49; refine HC.out.mono ?_; rintro e w1 ⟨rfl, rfl⟩)
        go_ret
        exact ⟨⟨k, rfl, .inl ⟨k, hlt, rfl, by rw [HP.out]; exact HN.out, HQ.out⟩⟩, HB.out.alloc HB.out.size _⟩
    · obtain rfl : k = l.length := by omega
      go_wp2
      go_ret
      exact ⟨⟨-1, rfl, .inr ⟨rfl, fun q hq => HQ.out q hq hq⟩⟩, HB.out⟩

/-! ### DeleteFunc, one pair gone -/
/-- The row when the rounds have come to k. -/
def gap (l : List S39) (i k : Nat) : List S39 := (l.eraseIdx i).take (k - 1) ++ l.drop (k - 1)
theorem gap_length (l : List S39) (i k : Nat) (hi : i < l.length) (hk : k ≤ l.length) (h1 : 1 ≤ k) : (gap l i k).length = l.length := by
  unfold gap
  rw [List.length_append, List.length_take, List.length_drop, List.length_eraseIdx, if_pos hi]
  omega
theorem gap_start (l : List S39) (i : Nat) (hi : i < l.length) : gap l i (i + 1) = l := by
  unfold gap
  rw [Nat.add_sub_cancel, List.eraseIdx_eq_take_drop_succ, List.take_append_of_le_length (by rw [List.length_take]; omega), List.take_take, Nat.min_self, List.take_append_drop]
theorem gap_get (l : List S39) (i k : Nat) (hi : i < l.length) (hk : k < l.length) (h1 : i < k) : ∃ h, (gap l i k)[k]'h = l[k] := by
  have hl := gap_length l i k hi (by omega) (by omega)
  refine ⟨by omega, ?_⟩
  unfold gap
  rw [List.getElem_append_right (by rw [List.length_take, List.length_eraseIdx, if_pos hi]; omega), List.getElem_drop]
  congr 1
  rw [List.length_take, List.length_eraseIdx, if_pos hi]
  omega
theorem gap_step (l : List S39) (i k : Nat) (hi : i < l.length) (hk : k < l.length) (h1 : i < k) : (gap l i k).set (k - 1) l[k] = gap l i (k + 1) := by
  have he : (l.eraseIdx i).length = l.length - 1 := by rw [List.length_eraseIdx, if_pos hi]
  unfold gap
  rw [List.set_append_right _ _ (by rw [List.length_take, he]; omega), List.length_take, he, Nat.min_eq_left (by omega), Nat.sub_self, List.drop_eq_getElem_cons (by omega : k - 1 < l.length), List.set_cons_zero, Nat.add_sub_cancel,
    show k - 1 + 1 = k by omega, show (l.eraseIdx i).take k = (l.eraseIdx i).take (k - 1 + 1) by rw [show k - 1 + 1 = k by omega], List.take_succ_eq_append_getElem (by omega), List.getElem_eraseIdx_of_ge (by omega) (by omega)]
  simp [show k - 1 + 1 = k by omega]
theorem gap_end (l : List S39) (i : Nat) (hi : i < l.length) : ∃ p, gap l i l.length = l.eraseIdx i ++ [p] := by
  have he : (l.eraseIdx i).length = l.length - 1 := by rw [List.length_eraseIdx, if_pos hi]
  refine ⟨l[l.length - 1], ?_⟩
  unfold gap
  rw [List.take_of_length_le (by omega), List.drop_eq_getElem_cons (by omega), List.drop_of_length_le (by omega)]

theorem run_clear_pair (w : World) (g o c : Nat) (ty : TypeId) (h0 : (w.cell? ⟨g, o, none⟩).isSome = true) (h1 : (w.cell? ⟨g, o + 1, none⟩).isSome = true) (f0 : w.frozen? ⟨g, o, none⟩ = false) (f1 : w.frozen? ⟨g, o + 1, none⟩ = false) :
    (Builtin.clear_ #[22] ty #[.slice (some ⟨g, o, none⟩) 1 c]).run Try.prog w = .ok (.tuple #[]) ((w.setCell ⟨g, o, none⟩ (.string ⟨#[]⟩)).setCell ⟨g, o + 1, none⟩ (.string ⟨#[]⟩)) := by
  have hz : (zeroValue 39).run Try.prog w = .ok (.agg #[.string ⟨#[]⟩, .string ⟨#[]⟩]) w := by kernel_rfl
  have hst := run_storeCells_cells (P := Try.prog) g o [.string ⟨#[]⟩, .string ⟨#[]⟩] 0 w (by
    intro j hj
    match j, hj with
    | 0, _ => exact h0
    | 1, _ => exact h1) (by
    intro j hj
    match j, hj with
    | 0, _ => exact f0
    | 1, _ => exact f1) (by simp [Value.oneCell'])
  simp only [Nat.add_zero] at hst
  have e : (Builtin.zeroCells (Value.agg #[.string ⟨#[]⟩, .string ⟨#[]⟩]).cells 1).toList = [.string ⟨#[]⟩, .string ⟨#[]⟩] := by kernel_rfl
  simp [Builtin.clear_, run_underlying Try.underlying22, hz, e, hst]
  rfl

set_option maxHeartbeats 1000000 in
theorem delFunc_none (A : Option Addr) (c : Nat) (l : List S39) (K : Nat) (key : ByteArray) (w : World) (hr : Kd.C k39 w A l.length l) (hK : w.cell? ⟨K, 0, none⟩ = some (.string key)) (hno : ∀ q (hq : q < l.length), isK key l[q] = false) :
    Calls Try.prog 47 #[.slice A l.length c, .func (.func 49) #[] #[.pointer (some ⟨K, 0, none⟩)]] w fun e w' => e = .returned (.slice A l.length c) ∧ Below w.heap.size w w' := by
  have HI := Lib.hid (idxPair_any A c l K key w hr hK)
  have HN := Lib.hid hno
  clear hr hK hno
  go_enter Try.func47, Try.ntmps47
  go_wp2_with fail
  refine HI.out.mono ?_
  rintro e w1 ⟨⟨n, rfl, hF⟩, hb⟩
  have hn : n = -1 := by
    rcases hF with ⟨k, h, _, hk, _⟩ | ⟨h, _⟩
    · rw [HN.out k h] at hk
      cases hk
    · exact h
  subst hn
  have HB := Lib.hid hb
  clear hF hb
  go_wp2
  go_ret
  exact ⟨rfl, HB.out⟩

set_option maxRecDepth 100000 in
set_option maxHeartbeats 2000000 in
theorem delFunc_one (g cap base : Nat) (l : List S39) (i : Nat) (K : Nat) (key : ByteArray) (w : World) (h : RowP w base (.slice (some ⟨g, 0, none⟩) l.length cap) l) (hbs : base ≤ w.heap.size) (hK : w.cell? ⟨K, 0, none⟩ = some (.string key)) (hKb : K < base) (hi : i < l.length) (hm : isK key l[i] = true) (hno : ∀ q (hq : q < l.length), q ≠ i → isK key l[q] = false) :
    Calls Try.prog 47 #[.slice (some ⟨g, 0, none⟩) l.length cap, .func (.func 49) #[] #[.pointer (some ⟨K, 0, none⟩)]] w fun e w' => e = .returned (.slice (some ⟨g, 0, none⟩) (l.length - 1) cap) ∧ Hid (RowP w' base (.slice (some ⟨g, 0, none⟩) (l.length - 1) cap) (l.eraseIdx i) ∧ Below base w w') := by
  have hcap := h.cap_le
  have hc1 := hcap.1
  have hc2 := hcap.2
  obtain ⟨A, c, hA, hAc, hAr⟩ := h.reads
  cases hA
  have HI := Lib.hid (idxPair_any _ cap l K key w hAr hK)
  have HN := Lib.hid hno
  have HH := Lib.hid (And.intro h (And.intro hK hKb))
  have hgb := h.base_le.1
  clear h hK hKb hno hAr hAc hcap
  go_enter Try.func47, Try.ntmps47
  go_wp2_with fail
  refine HI.out.mono ?_
  rintro e w1 ⟨⟨n, rfl, hF⟩, hb⟩
  have hn : n = (i : Int) := by
    rcases hF with ⟨k, h, rfl, hk, hq⟩ | ⟨_, hq⟩
    · by_cases hki : k = i
      · rw [hki]
      · rw [HN.out k h hki] at hk
        cases hk
    · rw [hq i hi] at hm
      cases hm
  subst hn
  have hR1 : RowP w1 base (.slice (some ⟨g, 0, none⟩) l.length cap) (gap l i (i + 1)) := by
    rw [gap_start l i hi]
    exact pw_own_below HH.out.1 hb
  have HR1 := Lib.hid hR1
  have HB1 := Lib.hid (And.intro (hb.mono hbs) hb.size)
  have i1 : ((i : Int) == -1) = false := by rw [beq_eq_false_iff_ne]; omega
  have HW := Lib.hid (fun (q : Nat) (hq : q < l.length) => (by unfold wrap64; omega : wrap64 ((q : Int) + 1) = (q : Int) + 1))
  have HC2 := Lib.hid (And.intro hc1 hc2)
  clear hF hb hR1 hm hc1 hc2
  go_wp2
  go_loopw [5, 6] (fun a b wr => ∃ m : Nat, i ≤ m ∧ m + 1 ≤ l.length ∧ a = .int .i64 m ∧ b = .int .i64 ((m : Int) + 1) ∧ Hid (RowP wr base (.slice (some ⟨g, 0, none⟩) l.length cap) (gap l i (m + 1))) ∧ Hid (Below base w wr ∧ w.heap.size ≤ wr.heap.size)) (fun _ b _ => l.length - (intOf b).toNat)
  case atStart => exact ⟨i, Nat.le_refl _, by omega, rfl, by rw [HW.out i hi], HR1, HB1⟩
  case round =>
    obtain ⟨m, him, hml, rfl, rfl, HR, HB⟩ := hrel
    have hgl := gap_length l i (m + 1) hi hml (by omega)
    by_cases hlt : m + 1 < l.length
    · have hR2 : RowP wr base (.slice (some ⟨g, 0, none⟩) (gap l i (m + 1)).length cap) (gap l i (m + 1)) := by rw [hgl]; exact HR.out
      obtain ⟨_, hgg⟩ := gap_get l i (m + 1) hi hlt (by omega)
      have hx := hR2.cells (m + 1) (by omega)
      rw [hgg] at hx
      obtain ⟨x0, x1⟩ := hx
      obtain ⟨⟨p0, p1⟩, hp⟩ : ∃ p, l[m + 1] = p := ⟨_, rfl⟩
      have hst := gap_step l i (m + 1) hi hlt (by omega)
      have hkn := HN.out (m + 1) hlt (by omega)
      rw [hp] at x0 x1 hst hkn
      have HC := Lib.hid (fun W hK => del1_any p0 p1 key K W hK)
      rw [hkn] at HC
      have HR2 := Lib.hid hR2
      have HS := Lib.hid hst
      have w2 := HW.out (m + 1) hlt
      have w5 := HW.out m (by omega)
      have w4 : wrap64 ((m : Int) + 1 + 1) = (m : Int) + 1 + 1 := w2
      have HK := Lib.hid (show (wr.alloc (.cells #[.string p0, .string p1] 39)).cell? ⟨K, 0, none⟩ = some (.string key) from Lib.cell?_alloc_some _ ((HB.out.1.cell (show (⟨K, 0, none⟩ : Addr).block < base from HH.out.2.2)).trans HH.out.2.1))
      clear hR2 hst hkn hp hgg w2
      go_wp2_with fail
      refine (HC.out _ HK.out).mono ?_
      rintro e w3 ⟨rfl, hw3⟩
      have hR3 : RowP w3 base (.slice (some ⟨g, 0, none⟩) (gap l i (m + 1)).length cap) (gap l i (m + 1)) := by rw [← hw3]; exact (HR2.out.alloc _).alloc _
      have hB3 : Below base w w3 ∧ w.heap.size ≤ w3.heap.size := by
        rw [← hw3]
        exact ⟨(HB.out.1.alloc (Nat.le_trans hbs HB.out.2) _).alloc (Nat.le_trans hbs (Nat.le_trans HB.out.2 (by simp))) _, Nat.le_trans HB.out.2 (by simp; omega)⟩
      have y0 : w3.cell? ⟨wr.heap.size, 0, none⟩ = some (.string p0) := by
        rw [← hw3]
        exact Lib.cell?_alloc_some _ (cell_new wr (.string p0) 0 _ _ rfl)
      have y1 : w3.cell? ⟨wr.heap.size, 1, none⟩ = some (.string p1) := by
        rw [← hw3]
        exact Lib.cell?_alloc_some _ (cell_new wr (.string p1) 1 _ _ rfl)
      obtain ⟨z0, z1⟩ := hR3.cells m (by omega)
      have f0 := hR3.frozen (m * 2)
      have f1 := hR3.frozen (m * 2 + 1)
      have HR3 := Lib.hid (And.intro hR3 hB3)
      clear hR3 hB3 hw3 x0 x1
      go_wp2
      go_roundw
      case rel =>
        refine ⟨m + 1, by omega, by omega, by rw [w5]; rfl, by rw [w4]; rfl, Lib.hid ?_, Lib.hid ?_⟩
        · have h1 := HR3.out.1.stored m ⟨p0, p1⟩
          have h2 := HS.out
          rw [Nat.add_sub_cancel] at h2
          rw [h2, hgl] at h1
          exact h1
        · have hg : base ≤ g := hgb
          exact ⟨(HR3.out.2.1.setCell hg _).setCell hg _, by simpa using HR3.out.2.2⟩
      case measure =>
        rw [w4]
        simp [intOf]
        omega
    · obtain rfl : m = l.length - 1 := by omega
      have hR2 : RowP wr base (.slice (some ⟨g, 0, none⟩) (gap l i (l.length - 1 + 1)).length cap) (gap l i (l.length - 1 + 1)) := by rw [hgl]; exact HR.out
      obtain ⟨z0, z1⟩ := hR2.cells (l.length - 1) (by omega)
      have f0 := hR2.frozen ((l.length - 1) * 2)
      have f1 := hR2.frozen ((l.length - 1) * 2 + 1)
      have hcl := fun c ty => run_clear_pair wr g ((l.length - 1) * 2) c ty (by rw [z0]; rfl) (by rw [z1]; rfl) f0 f1
      have HR2 := Lib.hid hR2
      have e1 : (((l.length - 1 : Nat) : Int) + 1) = (l.length : Int) := by omega
      have e2 : l.length - (l.length - 1) = 1 := by omega
      have e3 : l.length - 1 ≤ l.length := by omega
      have e4 := HC2.out.1
      have e5 : ¬ cap = l.length - 1 := by omega
      clear hR2 z0 z1 f0 f1
      go_wp2
      go_ret
      refine ⟨rfl, Lib.hid ⟨?_, (HB.out.1.setCell hgb _).setCell hgb _⟩⟩
      have h1 := HR2.out.stored (l.length - 1) ⟨⟨#[]⟩, ⟨#[]⟩⟩
      obtain ⟨p, hp⟩ := gap_end l i hi
      have he : (l.eraseIdx i).length = l.length - 1 := by rw [List.length_eraseIdx, if_pos hi]
      rw [hgl, show l.length - 1 + 1 = l.length by omega, hp, List.set_append_right _ _ (by omega), he, Nat.sub_self, List.set_cons_zero] at h1
      unfold RowP at h1 ⊢
      rw [cellsP_append, List.length_append, he, List.length_singleton] at h1
      rw [he]
      refine ownsRow_pop (by rw [cellsP_length, he]) (last := cellsP [⟨⟨#[]⟩, ⟨#[]⟩⟩]) ?_
      rw [show l.length - 1 + 1 = l.length by omega] at h1 ⊢
      exact h1

/-! ### Delete -/
structure DelInv (w : World) (C D Z : Array Value) (W : World) : Prop where
  node : Blk W w.heap.size 26 C
  key : Blk W (w.heap.size + 1) 9 D
  res : Blk W (w.heap.size + 1 + 1) 26 Z
  below : Below w.heap.size w W
section
variable {w : World} {C D Z : Array Value} {W W' : World}
theorem DelInv.mk0 (w : World) (C D Z : Array Value) : DelInv w C D Z (((w.alloc (.cells C 26)).alloc (.cells D 9)).alloc (.cells Z 26)) := by
  refine ⟨((Blk.new w _ _).alloc _).alloc _, ?_, ?_, bl_al (bl_al (bl_al (bl_re w) _) _) _⟩
  · have := (Blk.new (w.alloc (.cells C 26)) 9 D).alloc (.cells Z 26)
    rw [World.size_alloc] at this
    exact this
  · have := Blk.new ((w.alloc (.cells C 26)).alloc (.cells D 9)) 26 Z
    rw [World.size_alloc, World.size_alloc] at this
    exact this
theorem DelInv.next (h : DelInv w C D Z W) (hb : Below W.heap.size W W') : DelInv w C D Z W' := ⟨h.node.below hb h.node.lt, h.key.below hb h.key.lt, h.res.below hb h.res.lt, bl_tr h.below hb⟩
theorem DelInv.nextB {b : Nat} (h : DelInv w C D Z W) (hb : Below b W W') (hk : w.heap.size + 1 + 1 < b) : DelInv w C D Z W' := ⟨h.node.below hb (by omega), h.key.below hb (by omega), h.res.below hb (by omega), h.below.trans (hb.mono (by omega))⟩
theorem DelInv.lt (h : DelInv w C D Z W) : w.heap.size + 1 + 1 < W.heap.size := h.res.lt
end
/-- The end of a function whose first result lies in a variable of its own, a node, and two more. -/
theorem post_node3 {fn : Func} {p q r : Tmp} {R : Ending → World → Prop} {a : Act} {W : World} {g : Nat} {v0 v1 v2 v u : Value} (h : fn.results = #[.cell p 26, .tmp q, .tmp r]) (hB : Blk W g 26 #[v0, v1, v2]) (hd : a.defers = [])
    (hp : a.tmps.getD p undef = .pointer (some ⟨g, 0, none⟩)) (hq : a.tmps.getD q undef = v) (hr : a.tmps.getD r undef = u) (hR : R (.returned (.tuple #[.agg #[v0, v1, v2], v, u])) W) : bodyPost Try.prog fn R .ret a W := by
  obtain ⟨d, hu, hdd, hi⟩ := rowT_node
  have hc : W.rangeAt g 0 [v0, v1, v2] := rangeAt_row hB _ fun j v hj => by simpa using hj
  have hp' : a.tmps[p]?.getD undef = .pointer (some ⟨g, 0, none⟩) := by simpa using hp
  have hq' : a.tmps[q]?.getD undef = v := by simpa using hq
  have hr' : a.tmps[r]?.getD undef = u := by simpa using hr
  refine bodyPost_ret (v := .tuple #[.agg #[v0, v1, v2], v, u]) ?_ hd hR
  simp [results, h, hp', hq', hr', asAddr, run_loadVar_mid _ g 0 _ [v0, v1, v2] d hc hu hdd hi]

theorem filter_no (l : List S39) (key : ByteArray) (h : ∀ q (hq : q < l.length), isK key l[q] = false) : (l.filter fun p => !isK key p) = l := by
  rw [List.filter_eq_self]
  intro p hp
  obtain ⟨q, hq, rfl⟩ := List.mem_iff_getElem.1 hp
  rw [h q hq]
  rfl
theorem filter_one (l : List S39) (key : ByteArray) (i : Nat) (hi : i < l.length) (hm : isK key l[i] = true) (h : ∀ q (hq : q < l.length), q ≠ i → isK key l[q] = false) : (l.filter fun p => !isK key p) = l.eraseIdx i := by
  rw [List.eraseIdx_eq_take_drop_succ]
  have e : l = l.take i ++ (l[i] :: l.drop (i + 1)) := by rw [← List.drop_eq_getElem_cons hi, List.take_append_drop]
  have e1 : ((l.take i).filter fun p => !isK key p) = l.take i := by
    refine filter_no _ _ (fun q hq => ?_)
    rw [List.length_take] at hq
    rw [List.getElem_take]
    exact h q (by omega) (by omega)
  have e2 : ((l.drop (i + 1)).filter fun p => !isK key p) = l.drop (i + 1) := by
    refine filter_no _ _ (fun q hq => ?_)
    rw [List.length_drop] at hq
    rw [List.getElem_drop]
    exact h _ (by omega) (by omega)
  conv => lhs; rw [e]
  rw [List.filter_append, List.filter_cons, hm, e1, e2]
  rfl
theorem one_match {ps : List S39} {ks : List ByteArray} {kd : List Int} (h : leafB ps ks kd = true) (key : ByteArray) (i : Nat) (hi : i < ps.length) (hm : isK key ps[i] = true) : ∀ q (hq : q < ps.length), q ≠ i → isK key ps[q] = false := by
  intro q hq hne
  have hri : Rising (ps.map (·.f0)) := by
    simp only [leafB, Bool.and_eq_true] at h
    exact (rises_iff _).1 h.2
  rw [Bool.eq_false_iff]
  intro hm2
  unfold isK at hm hm2
  have e : ps[q].f0.toList = ps[i].f0.toList := (eq_of_beq hm2).trans (eq_of_beq hm).symm
  rcases Nat.lt_or_gt_of_ne hne with hlt | hlt
  · have hp := List.pairwise_iff_getElem.1 hri q i (by simpa using hq) (by simpa using hi) hlt
    simp only [List.getElem_map] at hp
    unfold blt at hp
    rw [e, less_irr] at hp
    cases hp
  · have hp := List.pairwise_iff_getElem.1 hri i q (by simpa using hi) (by simpa using hq) hlt
    simp only [List.getElem_map] at hp
    unfold blt at hp
    rw [e, less_irr] at hp
    cases hp
theorem delFunc_any (base : Nat) (ps : List S39) (ks : List ByteArray) (kd : List Int) (hl : leafB ps ks kd = true) (v : Value) (K : Nat) (key : ByteArray) (w : World) (h : RowP w base v ps) (hbs : base ≤ w.heap.size) (hK : w.cell? ⟨K, 0, none⟩ = some (.string key)) (hKb : K < base) :
    Calls Try.prog 47 #[v, .func (.func 49) #[] #[.pointer (some ⟨K, 0, none⟩)]] w fun e w' => (∃ v1, e = .returned v1 ∧ RowP w' base v1 (ps.filter fun p => !isK key p)) ∧ Below base w w' := by
  by_cases hx : ∃ i, ∃ hi : i < ps.length, isK key ps[i] = true
  · obtain ⟨i, hi, hm⟩ := hx
    obtain ⟨g, cap, rfl, _, _⟩ := World.ownsRow.form h (by omega)
    have hno := one_match hl key i hi hm
    refine (delFunc_one g cap base ps i K key w h hbs hK hKb hi hm hno).mono ?_
    rintro e w' ⟨rfl, hw⟩
    refine ⟨⟨_, rfl, ?_⟩, hw.out.2⟩
    rw [filter_one ps key i hi hm hno]
    exact hw.out.1
  · have hno : ∀ q (hq : q < ps.length), isK key ps[q] = false := by
      intro q hq
      rw [Bool.eq_false_iff]
      exact fun hm => hx ⟨q, hq, hm⟩
    obtain ⟨A, c, rfl, _, hr⟩ := h.reads
    refine (delFunc_none A c ps K key w hr hK hno).mono ?_
    rintro e w' ⟨rfl, hb⟩
    refine ⟨⟨_, rfl, ?_⟩, hb.mono hbs⟩
    rw [filter_no ps key hno]
    exact pw_own_below h hb
section
variable (A0_0 : Option Addr) (c0_0 : Nat) (l0_0 : List S39) (A0_1 : Option Addr) (c0_1 : Nat) (l0_1 : List ByteArray) (A0_2 : Option Addr) (c0_2 : Nat) (l0_2 : List Int) (k : ByteArray) (w : World)
set_option maxHeartbeats 1000000 in
theorem del_noleaf (hr0_0 : Kd.C k39 w A0_0 l0_0.length l0_0) (hc0_0 : l0_0.length ≤ c0_0) (hr0_1 : Kd.C Kd.string w A0_1 l0_1.length l0_1) (hc0_1 : l0_1.length ≤ c0_1) (hr0_2 : Kd.C (Kd.int .u32) w A0_2 l0_2.length l0_2) (hc0_2 : l0_2.length ≤ c0_2)
    (hs : smallB l0_0 l0_1 l0_2 = true) (hl : leafB l0_0 l0_1 l0_2 = false) :
    Calls Try.prog 24 #[.agg #[.slice A0_0 l0_0.length c0_0, .slice A0_1 l0_1.length c0_1, .slice A0_2 l0_2.length c0_2], .string k] w fun e w' => e = .returned (.tuple #[.agg #[.slice none 0 0, .slice none 0 0, .slice none 0 0], .bool false, .int .i64 60]) ∧ Below w.heap.size w w' := by
  have H := Lib.hid (fun W => fun hb : Below w.heap.size w W => node_isLeaf.calls 400011 A0_0 c0_0 l0_0 A0_1 c0_1 l0_1 A0_2 c0_2 l0_2 _ W (Kd.C_below hr0_0 hb) hc0_0 (Kd.C_below hr0_1 hb) hc0_1 (Kd.C_below hr0_2 hb) hc0_2 (isLeaf_eq l0_0 l0_1 l0_2 hs _ (by omega)))
  rw [hl] at H
  have HI := Lib.hid (DelInv.mk0 w #[.slice A0_0 l0_0.length c0_0, .slice A0_1 l0_1.length c0_1, .slice A0_2 l0_2.length c0_2] #[.string k] #[.slice none 0 0, .slice none 0 0, .slice none 0 0])
  clear hr0_0 hc0_0 hr0_1 hc0_1 hr0_2 hc0_2 hs hl
  go_enter Try.func24, Try.ntmps24
  go_wp2_with fail
  refine (H.out _ HI.out.below).mono ?_
  rintro e w1 ⟨rfl, hb1⟩
  have h1 := HI.out.next hb1
  have x0 := h1.res.frozen 0
  have x1 := h1.res.frozen 1
  have x2 := h1.res.frozen 2
  have y0 : w1.cell? ⟨w.heap.size + 1 + 1, 0, none⟩ = some (.slice none 0 0) := h1.res.cell 0
  have y1 : w1.cell? ⟨w.heap.size + 1 + 1, 1, none⟩ = some (.slice none 0 0) := h1.res.cell 1
  have y2 : w1.cell? ⟨w.heap.size + 1 + 1, 2, none⟩ = some (.slice none 0 0) := h1.res.cell 2
  have H1 := Lib.hid h1
  clear h1 hb1
  go_wp2
  exact post_node3 rfl (((H1.out.res.set_ 0 _).set_ 1 _).set_ 2 _) rfl rfl rfl rfl ⟨rfl, bl_st (bl_st (bl_st H1.out.below (by simp; omega) _) (by simp; omega) _) (by simp; omega) _⟩

set_option maxRecDepth 100000 in
set_option maxHeartbeats 2000000 in
theorem del_leaf (hr0_0 : Kd.C k39 w A0_0 l0_0.length l0_0) (hc0_0 : l0_0.length ≤ c0_0) (hr0_1 : Kd.C Kd.string w A0_1 l0_1.length l0_1) (hc0_1 : l0_1.length ≤ c0_1) (hr0_2 : Kd.C (Kd.int .u32) w A0_2 l0_2.length l0_2) (hc0_2 : l0_2.length ≤ c0_2)
    (hs : smallB l0_0 l0_1 l0_2 = true) (hl : leafB l0_0 l0_1 l0_2 = true) (L : List S39) (hL : l0_0.filter (fun p => !isK k p) = L) (b : Bool) (hb : decide (L.length < l0_0.length) = b) :
    Calls Try.prog 24 #[.agg #[.slice A0_0 l0_0.length c0_0, .slice A0_1 l0_1.length c0_1, .slice A0_2 l0_2.length c0_2], .string k] w fun e w' => (∃ v, e = .returned (.tuple #[.agg #[v, .slice none 0 0, .slice none 0 0], .bool b, .int .i64 0]) ∧ Kd.R k39 39 w' w.heap.size (fun _ => True) v L) ∧ Below w.heap.size w w' := by
  have hps : l0_0.length ≤ 100000 := by
    simp only [smallB, Bool.and_eq_true, decide_eq_true_eq] at hs
    exact hs.1.1
  have H := Lib.hid (fun W => fun hb : Below w.heap.size w W => node_isLeaf.calls 400011 A0_0 c0_0 l0_0 A0_1 c0_1 l0_1 A0_2 c0_2 l0_2 _ W (Kd.C_below hr0_0 hb) hc0_0 (Kd.C_below hr0_1 hb) hc0_1 (Kd.C_below hr0_2 hb) hc0_2 (isLeaf_eq l0_0 l0_1 l0_2 hs _ (by omega)))
  rw [hl] at H
  have HC := Lib.hid (fun W => fun hb : Below w.heap.size w W => slices_Clone_Pair.calls A0_0 c0_0 l0_0 _ W (Kd.C_below hr0_0 hb) hc0_0 (show slices_Clone_Pair.f l0_0 = some l0_0 by unfold slices_Clone_Pair.f; rw [if_pos (by omega)]))
  have HD := Lib.hid (fun base v W h1 h2 h3 h4 => delFunc_any base l0_0 l0_1 l0_2 hl v (w.heap.size + 1) k W h1 h2 h3 h4)
  rw [hL] at HD
  have HI := Lib.hid (DelInv.mk0 w #[.slice A0_0 l0_0.length c0_0, .slice A0_1 l0_1.length c0_1, .slice A0_2 l0_2.length c0_2] #[.string k] #[.slice none 0 0, .slice none 0 0, .slice none 0 0])
  have HB := Lib.hid hb
  clear hr0_0 hc0_0 hr0_1 hc0_1 hr0_2 hc0_2 hs hl hL hb hps
  go_enter Try.func24, Try.ntmps24
  go_wp2_with fail
  refine (H.out _ HI.out.below).mono ?_
  rintro e w1 ⟨rfl, hb1⟩
  have h1 := HI.out.next hb1
  have c0 : w1.cell? ⟨w.heap.size, 0, none⟩ = some (.slice A0_0 l0_0.length c0_0) := h1.node.cell 0
  have H1 := Lib.hid h1
  clear h1 hb1
  go_wp2_with fail
  refine (HC.out _ H1.out.below).mono ?_
  rintro e w2 ⟨v2, rfl, hv2, hb2⟩
  have H2 := Lib.hid (H1.out.next hb2)
  have HV := Lib.hid (HD.out w1.heap.size v2 w2 (rowP_of hv2) hb2.size (H2.out.key.cell 0) (by have := H1.out.lt; omega))
  clear hv2 hb2 c0
  go_wp2_with fail
  refine HV.out.mono ?_
  rintro e w3 ⟨⟨v3, rfl, hv3⟩, hb3⟩
  have h3 := H2.out.nextB hb3 H1.out.lt
  obtain ⟨A3, c3, rfl, hlc, _⟩ := hv3.reads
  have c0 : w3.cell? ⟨w.heap.size, 0, none⟩ = some (.slice A0_0 l0_0.length c0_0) := h3.node.cell 0
  have x0 := h3.res.frozen 0
  have x1 := h3.res.frozen 1
  have x2 := h3.res.frozen 2
  have y0 : w3.cell? ⟨w.heap.size + 1 + 1, 0, none⟩ = some (.slice none 0 0) := h3.res.cell 0
  have y1 : w3.cell? ⟨w.heap.size + 1 + 1, 1, none⟩ = some (.slice none 0 0) := h3.res.cell 1
  have y2 : w3.cell? ⟨w.heap.size + 1 + 1, 2, none⟩ = some (.slice none 0 0) := h3.res.cell 2
  have HN := Lib.hid (show ((((w3.setCell ⟨w.heap.size + 1 + 1, 0, none⟩ (.slice A3 L.length c3)).setCell ⟨w.heap.size + 1 + 1, 1, none⟩ (.slice none 0 0)).setCell ⟨w.heap.size + 1 + 1, 2, none⟩ (.slice none 0 0)).drew).cell? ⟨w.heap.size, 0, none⟩ = some (.slice A0_0 l0_0.length c0_0) from
    ((((h3.node.far (p := ⟨w.heap.size + 1 + 1, 0, none⟩) (by simp; omega) _).far (p := ⟨w.heap.size + 1 + 1, 1, none⟩) (by simp; omega) _).far (p := ⟨w.heap.size + 1 + 1, 2, none⟩) (by simp; omega) _).drew).cell 0)
  have H3 := Lib.hid (And.intro h3 (And.intro hv3 H1.out.below.size))
  clear h3 hv3 hb3 hlc
  go_wp2
  go_region_held3 (fun w' => w'.cell? ⟨w.heap.size, 0, none⟩ = some (.slice A0_0 l0_0.length c0_0)) (first | assumption | go_keep | exact HN.out) (fail)
  all_goals
    go_wp2
    refine post_node3 rfl ((((H3.out.1.res.set_ 0 _).set_ 1 _).set_ 2 _).drew) rfl rfl rfl rfl ⟨⟨_, by rw [HB.out]; rfl, ?_⟩, bl_dr (bl_st (bl_st (bl_st H3.out.1.below (by simp; omega) _) (by simp; omega) _) (by simp; omega) _)⟩
    have r0 := Kd.R_lower H3.out.2.1.to H3.out.2.2
    have q0 := H3.out.1.res
    have r1 := Kd.R_set r0 q0 (by decide) 0 (.slice A3 L.length c3)
    have q1 := q0.set_ 0 (.slice A3 L.length c3)
    have r2 := Kd.R_set r1 q1 (by decide) 1 (.slice none 0 0)
    have q2 := q1.set_ 1 (.slice none 0 0)
    have r3 := Kd.R_set r2 q2 (by decide) 2 (.slice none 0 0)
    exact Kd.R_drew r3
end
theorem node_Delete.calls (A0_0 : Option Addr) (c0_0 : Nat) (l0_0 : List S39) (A0_1 : Option Addr) (c0_1 : Nat) (l0_1 : List ByteArray) (A0_2 : Option Addr) (c0_2 : Nat) (l0_2 : List Int) (a1 : ByteArray) (r1 : List S39) (r2 : List ByteArray) (r3 : List Int) (r4 : Bool) (r5 : Int) (w : World) (hr0_0 : Kd.C k39 w A0_0 l0_0.length l0_0) (hc0_0 : l0_0.length ≤ c0_0) (hr0_1 : Kd.C Kd.string w A0_1 l0_1.length l0_1) (hc0_1 : l0_1.length ≤ c0_1) (hr0_2 : Kd.C (Kd.int .u32) w A0_2 l0_2.length l0_2) (hc0_2 : l0_2.length ≤ c0_2) (h : node_Delete.f l0_0 l0_1 l0_2 a1 = some (r1, r2, r3, r4, r5)) :
    Calls Try.prog 24 #[.agg #[.slice A0_0 l0_0.length c0_0, .slice A0_1 l0_1.length c0_1, .slice A0_2 l0_2.length c0_2], .string a1] w fun e w' => ∃ v0_ v1_ v2_ : Value, e = .returned (.tuple #[.agg #[v0_, v1_, v2_], .bool r4, .int .i64 r5]) ∧ Kd.R k39 39 w' w.heap.size (fun _ => True) v0_ r1 ∧ Kd.R Kd.string 9 w' w.heap.size (fun _ => True) v1_ r2 ∧ Kd.R (Kd.int .u32) 65 w' w.heap.size (fun _ => True) v2_ r3 ∧ Below w.heap.size w w' := by
  unfold node_Delete.f at h
  by_cases hs : smallB l0_0 l0_1 l0_2 = true
  · rw [if_pos hs] at h
    cases hl : leafB l0_0 l0_1 l0_2 with
    | false =>
      rw [hl, if_neg (by simp)] at h
      simp only [Option.some.injEq, Prod.mk.injEq] at h
      obtain ⟨rfl, rfl, rfl, rfl, rfl⟩ := h
      refine (del_noleaf A0_0 c0_0 l0_0 A0_1 c0_1 l0_1 A0_2 c0_2 l0_2 a1 w hr0_0 hc0_0 hr0_1 hc0_1 hr0_2 hc0_2 hs hl).mono ?_
      rintro e w' ⟨rfl, hb⟩
      exact ⟨_, _, _, rfl, Kd.R_nil _ _ _ _ _, Kd.R_nil _ _ _ _ _, Kd.R_nil _ _ _ _ _, hb⟩
    | true =>
      rw [hl, if_pos rfl] at h
      simp only [Option.some.injEq, Prod.mk.injEq] at h
      obtain ⟨rfl, rfl, rfl, rfl, rfl⟩ := h
      refine (del_leaf A0_0 c0_0 l0_0 A0_1 c0_1 l0_1 A0_2 c0_2 l0_2 a1 w hr0_0 hc0_0 hr0_1 hc0_1 hr0_2 hc0_2 hs hl _ rfl _ rfl).mono ?_
      rintro e w' ⟨⟨v, rfl, hv⟩, hb⟩
      exact ⟨_, _, _, rfl, hv, Kd.R_nil _ _ _ _ _, Kd.R_nil _ _ _ _ _, hb⟩
  · rw [if_neg hs] at h
    cases h
end Go.Proofs.Ytejempihaknplaa.G
