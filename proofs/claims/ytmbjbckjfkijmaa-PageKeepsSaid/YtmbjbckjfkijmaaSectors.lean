/- package page: a range over a page's sectors, by what holds at each round; append of a text to a row that is full. -/
import Derived.Test.YtmbjbckjfkijmaaPageD
import Derived.Test.YtmbjbckjfkijmaaDiskD
import Derived.Test.YtmbjbckjfkijmaaRound
import Derived.Lib.AppendStr
namespace Go.Proofs.Ytmbjbckjfkijmaa
open Go.RowKit Go.Shelf
set_option linter.unusedVariables false
attribute [local go_sem] Oper.semAt_some

set_option maxHeartbeats 1000000 in
theorem psectors_any (id : Nat) (w : World) :
    Calls Try.prog 56 #[.int .u32 id] w fun e w' => e = .returned (.func (.func 67) #[] #[.pointer (some ⟨w.heap.size, 0, none⟩)]) ∧
      w' = w.alloc (.cells #[.int .u32 id] 57) := by
  go_enter Try.func56, Try.ntmps56
  go_wp2
  go_ret
  exact ⟨rfl, rfl⟩

set_option maxRecDepth 100000 in
set_option maxHeartbeats 2000000 in
theorem sectors1_in (m l Bi id : Nat) (hid : id < 4294967296) (J : Nat → World → Prop)
    (hJ : ∀ k W, J k W → W.cell? ⟨Bi, 0, none⟩ = some (.int .u32 id))
    (hY : ∀ k W, k < 4 → J k W → YieldAt Fence.wide (m - 1) Try.prog l #[.int .i64 (4 * (id : Int) + (k : Int)), .int .i64 (64 * (k : Int))] W fun e W' => e = .returned (.bool true) ∧ J (k + 1) W')
    (W : World) (h0 : J 0 W) :
    CallsIn Fence.wide m Try.prog 67 #[.func (.yield l) #[] #[], .pointer (some ⟨Bi, 0, none⟩)] W fun e W' => (∃ v, e = .returned v) ∧ J 4 W' := by
  have HY := Lib.hid hY
  have HJ := Lib.hid hJ
  clear hY hJ
  refine callsIn_of_wp Try.func67 rfl trivial ?_ rfl
  simp only [Try.ntmps67, List.size_toArray, List.length_cons, List.length_nil, Nat.reduceAdd, Nat.reduceSub, Array.replicate_succ, Array.replicate_zero, List.push_toArray, List.append_toArray, List.nil_append, List.cons_append]
  gi_wp2
  gi_loopw [4] (fun i wr => ∃ k : Nat, k ≤ 4 ∧ i = .int .i64 k ∧ J k wr) (fun i _ => 4 - (intOf i).toNat)
  case atStart => exact ⟨0, Nat.zero_le _, rfl, h0⟩
  case round =>
    obtain ⟨k, hk, rfl, hJk⟩ := hrel
    clear h0
    by_cases hlt : k < 4
    · have c0 := HJ.out k _ hJk
      have hyy := HY.out k wr hlt hJk
      have HYY := Lib.hid hyy
      have HJk := Lib.hid hJk
      clear hyy hJk
      have i0 : (0 : Int) ≤ (k : Int) := Int.natCast_nonneg _
      have i1 : (k : Int) < 4 := by omega
      have i2 : (0 : Int) ≤ (id : Int) := Int.natCast_nonneg _
      have i3 : (id : Int) < 4294967296 := by omega
      gi_wp2_with fail
      obtain ⟨fn, tmps, assign, body, hy, hR⟩ := HYY.out
      clear HYY
      rw [hy, Oper.uponIn_round]
      refine ⟨fun h => (by cases h), hR.mono ?_⟩
      clear hy
      rintro e W3 ⟨rfl, hJ3⟩
      gi_wp2
      go_roundw
      case rel => exact ⟨k + 1, by omega, by go_num, hJ3⟩
      case measure => simp [intOf]; omega
    · obtain rfl : k = 4 := by omega
      have i1 : ¬ ((4 : Nat) : Int) < 4 := by omega
      gi_wp2
      go_end0
      exact ⟨⟨_, rfl⟩, hJk⟩

theorem rf_sectors {gop : Operand} {p1 p2 : Tmp} {assign body : Code} {Q : Exit → Act → World → Prop} {a : Act} {w0 : World} {Bi id : Nat} (hid : id < 4294967296) (M : Nat) (hM : w0.heap.size = M)
    (hg : a.eval gop = .func (.func 67) #[] #[.pointer (some ⟨Bi, 0, none⟩)])
    (I : Nat → World → Prop) (hI : ∀ k W, I k W → W.cell? ⟨Bi, 0, none⟩ = some (.int .u32 id)) (hIa : ∀ k W o, I k W → I k (W.alloc o)) (hIp : ∀ k W o, I k W → I k (W.putObj (M + 1) o)) (h0 : I 0 w0)
    (round : ∀ k W x y z, k < 4 → I k W → W.heap[M]? = some x → W.heap[M + 1]? = some y → M + 1 < W.heap.size →
      assign.wpIn (Fence.wide.inRound (M + 1)) 7 Try.prog (Exit.then (fun a₁ W₁ => W₁.heap[M + 1]? = some y ∧
        body.wpIn (Fence.wide.inRound (M + 1)) 7 Try.prog (fun e _ W₂ => e = .normal ∧ I (k + 1) W₂ ∧ W₂.heap[M]? = some x ∧ W₂.heap[M + 1]? = some z) a₁ (W₁.putObj (M + 1) z)) (fun _ _ _ => False))
        { tmps := (a.tmps.setIfInBounds p1 (.int .i64 (4 * (id : Int) + (k : Int)))).setIfInBounds p2 (.int .i64 (64 * (k : Int))), defers := [] } W)
    (fin : ∀ W, I 4 W → W.heap[M]? = some (.deferred (some [])) → Q .normal { a with defers := { target := .collected M, args := #[] } :: a.defers } W) :
    (Code.rangeFunc gop #[p1, p2] assign body).wpIn Fence.wide 9 Try.prog Q a w0 := by
  subst hM
  refine wpIn_rf rfl (fun h => by cases h) hg trivial (enters_of Try.func67 (by kernel_rfl) rfl) ?_
  intro fn rec _ hrec
  refine (sectors1_in (9 - 1) (w0.heap.size + 1) Bi id hid
    (fun k W => I k W ∧ W.heap[w0.heap.size + 1]? = some (rec .ready none) ∧ W.heap[w0.heap.size]? = some (.deferred (some []))) ?_ ?_ _ ?_).mono ?_
  · exact fun k W h => hI k W h.1
  · rintro k W hk ⟨j1, j2, j3⟩
    refine yieldAt_of hrec trivial j2 rfl ?_
    have hz : (#[p1, p2].zip #[Value.int .i64 (4 * (id : Int) + (k : Int)), Value.int .i64 (64 * (k : Int))]).foldl (fun t (x : Tmp × Value) => t.setIfInBounds x.1 x.2) a.tmps = (a.tmps.setIfInBounds p1 (.int .i64 (4 * (id : Int) + (k : Int)))).setIfInBounds p2 (.int .i64 (64 * (k : Int))) := by simp
    rw [hz]
    refine wpIn_mono (round k W _ _ (rec .busy none) hk j1 j3 j2 (Array.getElem?_eq_some_iff.1 j2).1) ?_
    rintro e a₁ W₁ he
    cases e with
    | normal =>
      refine ⟨he.1, wpIn_mono he.2 ?_⟩
      rintro e a₂ W₂ ⟨rfl, i1, i2, i3⟩
      exact ⟨i3, rfl, hIp _ _ _ i1, World.putObj_heap_same (Array.getElem?_eq_some_iff.1 i3).1, (World.putObj_heap_other (by omega)).trans i2⟩
    | exit id => exact he.elim
    | goto t => exact he.elim
    | ret => exact he.elim
    | panic _ => exact he.elim
    | outgrown => exact he.elim
  · refine ⟨hIa _ _ _ (hIa _ _ _ h0), ?_, (Below.heap_alloc _ _ _ (by simp)).trans (World.alloc_heap_new _ _)⟩
    rw [← World.size_alloc w0 (.deferred (some []))]
    exact World.alloc_heap_new _ _
  · rintro e W ⟨he, j1, j2, j3⟩
    refine ⟨he, .ready, none, by simp, j2, ?_⟩
    exact fin _ (hIp _ _ _ j1) ((World.putObj_heap_other (by omega)).trans j3)

/-- 'append(b, s...)' where b's row has no room: a new row. -/
theorem in_append_grow {F : Fence} {n' : Nat} {P : Program} {ops : Array Oper} {rest : List Oper} {o : Oper} {a : Act} {Q : Exit → Act → World → Prop} {w : World} (hgd : o.guard = none) (sl x : Operand) (t u : TypeId)
    (ho : o.op = .call { callee := .builtin .append, args := #[sl, x], argTypes := #[t, u] })
    (e : TypeId) (i : TypeInfo) (ht : P.underlying t = some (.slice e)) (hu : P.underlying u = some .string) (hi : P.info? e = some i) (hz : i.zero = some (.int .u8 0)) (hsize : i.size = 1) (hby : i.bytes = 1)
    (g sLen sCap : Nat) (l : List UInt8) (hl : l.length = sLen) (hh : Holds w g l) (s : ByteArray) (hgr : sCap < sLen + s.size) (hsz : sLen + s.size ≤ 1000000)
    (hs : a.eval sl = .slice (some ⟨g, 0, none⟩) sLen sCap) (hx : a.eval x = .string s)
    (h : ∀ (cap : Nat) (W : World), sLen + s.size ≤ cap → Holds W w.heap.size (l ++ s.data.toList) → Below w.heap.size w W → W.heap.size = w.heap.size + 1 → wpListIn F n' P ops Q rest (a.put o.dst (.slice (some ⟨w.heap.size, 0, none⟩) (sLen + s.size) cap)) W) : wpListIn F n' P ops Q (o :: rest) a w := by
  refine wpListIn_plain hgd fun K hK => ?_
  have hr := Lib.run_append_grow_string (P := P) w t u o.type e i (.int .u8 0) ht hu hi hz ⟨g, 0, none⟩ sLen sCap (u8s l) (by rw [u8s_length, hl, hsize, Nat.mul_one]) (fun j v hv => by
    rw [add_zero_at]
    rw [u8s_get] at hv
    have hj : j < l.length := by
      rcases Nat.lt_or_ge j l.length with h | h
      · exact h
      · rw [List.getElem?_eq_none h] at hv
        cases hv
    rw [hh j hj, ← hv, List.getElem?_eq_getElem hj]
    rfl) s hgr (by omega) (by rw [hby]; exact growslice_fits hgr (by omega))
  unfold Oper.wpIn
  refine ⟨?_, ?_⟩
  · simp [Oper.about, ho, resolve, Target.leads, Sem.run_pure]
  · rw [Oper.semAt_plain F _ _ (by rw [ho]; intro c hc'; cases hc')]
    simp [execOp, ho, resolve, invoke, builtin, hs, hx, hr, Result.andThen]
    refine hK _ _ (h _ _ (grownCap_ge _ _ _ _) ?_ (bl_al (bl_dr (bl_re w)) _) (by simp))
    intro j hj
    have e1 : u8s l ++ Lib.strCells s = u8s (l ++ s.data.toList) := by
      simp [u8s, Lib.strCells]
    rw [e1]
    refine ((Blk.new w.drew _ _).cell j).trans ?_
    rw [Array.getElem?_append_left (by simpa using hj)]
    rw [List.getElem?_toArray, u8s_get, List.getElem?_eq_getElem hj]
    rfl
end Go.Proofs.Ytmbjbckjfkijmaa
