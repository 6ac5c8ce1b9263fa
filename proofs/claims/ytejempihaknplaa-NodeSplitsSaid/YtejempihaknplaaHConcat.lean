/- slices.Grow of nil and slices.Concat: what each call returns. -/
import Derived.Test.YtejempihaknplaaNdM
import Derived.Lib.AppendZeros
namespace Go.Proofs.Ytejempihaknplaa.G
open Go.RowKit Go.Proofs.YtejempihaknplaaW.PrintWords Go.Proofs.YtejempihaknplaaW.PrintLast Go.Proofs.YtejempihaknplaaW.PrintMore
set_option linter.unusedVariables false

/-- Slices that lie in a block, one by one. -/
def RowsAt {α : Type} (d : Kd α) (w : World) (g : Nat) (L : List (Option Addr × Nat × List α)) : Prop := ∀ i x, L[i]? = some x → w.cell? ⟨g, i, none⟩ = some (.slice x.1 x.2.2.length x.2.1) ∧ x.2.2.length ≤ x.2.1 ∧ Kd.C d w x.1 x.2.2.length x.2.2
def flat {α : Type} (L : List (Option Addr × Nat × List α)) : List α := L.flatMap (·.2.2)
theorem flat_step {α : Type} (L : List (Option Addr × Nat × List α)) (k : Nat) (x : Option Addr × Nat × List α) (h : L[k]? = some x) : flat (L.take (k + 1)) = flat (L.take k) ++ x.2.2 := by
  obtain ⟨hlt, rfl⟩ := List.getElem?_eq_some_iff.1 h
  unfold flat
  rw [List.take_succ_eq_append_getElem hlt, List.flatMap_append]
  simp
theorem flat_le {α : Type} (L : List (Option Addr × Nat × List α)) (k : Nat) : (flat (L.take k)).length ≤ (flat L).length := by
  have h : flat L = flat (L.take k) ++ flat (L.drop k) := by
    unfold flat
    rw [← List.flatMap_append, List.take_append_drop]
  rw [h, List.length_append]
  omega
theorem R_grown_empty {α : Type} (d : Kd α) (W W' : World) (e : TypeId) (C : Array Value) (c : Nat) (hc : c ≤ maxLen) (hs : C.size = c * d.sz) (hW : W'.heap.size = W.heap.size) : d.R e (W'.alloc (.cells C e)) W.heap.size (fun _ => True) (.slice (some ⟨W.heap.size, 0, none⟩) 0 c) [] :=
  ⟨fun _ _ => trivial, [], ⟨by simp, .inr ⟨W.heap.size, c, C, rfl, Nat.le_refl _, by rw [← hW]; exact Go.heap_alloc_new W' _, by simp, hc, hs, by simp⟩⟩, Reps.none _ _⟩

set_option maxHeartbeats 1000000 in
theorem grow_Pair (n : Nat) (w : World) (hn : n ≤ 300000) : Calls Try.prog 72 #[.slice none 0 0, .int .i64 n] w fun e w' => ∃ v, e = .returned v ∧ Kd.R k39 39 w' w.heap.size (fun _ => True) v [] ∧ Below w.heap.size w w' := by
  rcases Nat.eq_zero_or_pos n with h0 | h0
  · subst h0
    go_enter Try.func72, Try.ntmps72
    go_wp2
    go_ret
    exact ⟨_, rfl, Kd.R_nil _ _ _ _ _, Below.refl _ _⟩
  · obtain ⟨i0, hi, hz0, hz1, hz2⟩ := info_parts info39
    have hge := grownCap_ge w n 0 39
    have hle := grownCap_le_maxLen w n 0 39 (by unfold maxLen; omega)
    obtain ⟨C, hC⟩ : ∃ C, C = Builtin.zeroCells (Value.cells (.agg #[(.string ⟨#[]⟩), (.string ⟨#[]⟩)])) n ++ Builtin.zeroCells (Value.cells (.agg #[(.string ⟨#[]⟩), (.string ⟨#[]⟩)])) (grownCap w n 0 39 - n) := ⟨_, rfl⟩
    have hrz : ∀ ty, (Builtin.append_ #[22, 3] ty #[.slice none 0 0, .int .i64 n]).run Try.prog w = .ok (.slice (some ⟨w.heap.size, 0, none⟩) n (grownCap w n 0 39)) (w.drew.alloc (.cells C 39)) := fun ty => by
      rw [hC]
      exact Lib.run_append_nil_zeros w 22 3 ty 39 i0 (.agg #[(.string ⟨#[]⟩), (.string ⟨#[]⟩)]) .i64 .i64 Try.underlying22 Try.underlying3 hi hz0 n h0 (by rw [hz1]; decide) (by omega) (by rw [hz2]; omega)
    have hCs : C.size = grownCap w n 0 39 * Kd.sz k39 := by
      rw [hC, Array.size_append, size_zeroCells, size_zeroCells, ← Nat.add_mul, Nat.add_sub_cancel' hge]
      rfl
    have HC := Aside0.mk hCs
    have HLE := Aside0.mk hle
    clear hC hCs hz0 hi hle
    unfold maxLen at HLE
    generalize grownCap w n 0 39 = G at *
    have hG := HLE.out
    have g1 : (0 : Int) < (n : Int) := by omega
    have HRZ := Aside0.mk hrz
    clear hrz
    go_enter Try.func72, Try.ntmps72
    go_wp2_with (at_builtin; refine Lib.wpList_append_run _ rfl (.tmp 20) (.tmp 21) 22 3 rfl (.slice none 0 0) (.int .i64 n) rfl rfl _ _ (HRZ.out _) ?_)
    go_ret
    exact ⟨_, rfl, R_grown_empty k39 w w.drew 39 C G (by unfold maxLen; exact HLE.out) HC.out rfl, ((Below.refl w.heap.size w).drew).alloc (Nat.le_refl _) _⟩

set_option maxRecDepth 100000 in
set_option maxHeartbeats 2000000 in
theorem concat_Pair (L : List (Option Addr × Nat × List S39)) (g n c : Nat) (w : World) (hn : L.length = n) (hn2 : n ≤ 100) (hL : RowsAt k39 w g L) (hb : (flat L).length ≤ 300000) :
    Calls Try.prog 53 #[.slice (some ⟨g, 0, none⟩) n c] w fun e w' => ∃ v, e = .returned v ∧ Kd.R k39 39 w' w.heap.size (fun _ => True) v (flat L) ∧ Below w.heap.size w w' := by
  subst hn
  have HLA := Aside0.mk hL
  have HG := Aside0.mk (fun (n : Nat) w (hn : n ≤ 300000) => grow_Pair n w hn)
  clear hL
  go_enter Try.func53, Try.ntmps53
  go_wp2
  go_loop [3, 5, 11] (fun s _ i => ∃ k : Nat, k ≤ L.length ∧ i = .int .i64 k ∧ ∃ m : Nat, s = .int .i64 m ∧ (flat (L.take k)).length = m) (fun _ _ i => L.length - (intOf i).toNat)
  case atStart => exact ⟨0, Nat.zero_le _, rfl, 0, rfl, rfl⟩
  case round =>
    obtain ⟨k, hk, rfl, m, rfl, hm⟩ := hrel
    have hml := flat_le L k
    by_cases hlt : k < L.length
    · obtain ⟨⟨A, cc, l⟩, hx⟩ : ∃ x, L[k]? = some x := ⟨_, List.getElem?_eq_getElem hlt⟩
      obtain ⟨q0, q1, q2⟩ := HLA.out k _ hx
      dsimp only at q0 q1 q2
      have hst : flat (L.take (k + 1)) = flat (L.take k) ++ l := flat_step L k _ hx
      have hsl := flat_le L (k + 1)
      have hm2 : (flat (L.take (k + 1))).length = m + l.length := by rw [hst, List.length_append, hm]
      have HM := Aside0.mk hm2
      have i0 : (0 : Int) ≤ (k : Int) := Int.natCast_nonneg _
      have i1 : (k : Int) < (L.length : Int) := by omega
      have i2 : (m : Int) + (l.length : Int) ≤ 300000 := by omega
      have i3 : ¬ ((m : Int) + (l.length : Int)) < 0 := by omega
      clear q2 hst hsl hx hm2 hm hml
      go_wp2
      refine ⟨⟨k + 1, by omega, by go_num, m + l.length, by go_num, HM.out⟩, by simp [intOf]; omega⟩
    · obtain rfl : k = L.length := by omega
      rw [List.take_length] at hm
      have hm3 : m ≤ 300000 := by omega
      clear hml
      go_wp2_with (go_at_call 72; refine (HG.out m _ hm3).mono ?_; rintro e w1 ⟨v1, rfl, hR1, hB1⟩)
      have H1 := Aside0.mk (And.intro hR1 hB1)
      clear hR1 hB1
      go_loopw [6, 8, 27] (fun v _ i wr => ∃ k : Nat, k ≤ L.length ∧ i = .int .i64 k ∧ Aside0 (Kd.R k39 39 wr w.heap.size (fun _ => True) v (flat (L.take k)) ∧ Below w.heap.size w wr)) (fun _ _ i _ => L.length - (intOf i).toNat)
      case atStart => exact ⟨0, Nat.zero_le _, rfl, H1⟩
      case round =>
        obtain ⟨k, hk, rfl, HR⟩ := hrel
        by_cases hlt : k < L.length
        · obtain ⟨⟨A, cc, l⟩, hx⟩ : ∃ x, L[k]? = some x := ⟨_, List.getElem?_eq_getElem hlt⟩
          obtain ⟨p0, p1, p2⟩ := HLA.out k _ hx
          dsimp only at p0 p1 p2
          have hst : flat (L.take (k + 1)) = flat (L.take k) ++ l := flat_step L k _ hx
          have hsl := flat_le L (k + 1)
          rw [hst, List.length_append] at hsl
          have HQQ := Aside0.mk (And.intro hst hsl)
          have q0 : wr.cell? ⟨g, k, none⟩ = some (.slice A l.length cc) := (HR.out.2.cell (World.block_lt_of_cell? w _ p0)).trans p0
          have HC := Aside0.mk (Kd.C_below p2 HR.out.2)
          have i0 : (0 : Int) ≤ (k : Int) := Int.natCast_nonneg _
          have i1 : (k : Int) < (L.length : Int) := by omega
          clear p0 p1 p2 hst hsl hx
          go_wp2_with (at_builtin; refine Kd.R_append_rows (Rr := Kd.K k39 wr) k39 (w0 := w) w.heap.size rfl (.tmp 31) (.tmp 32) 22 39 (.agg #[(.string ⟨#[]⟩), (.string ⟨#[]⟩)]) 32 rfl Try.underlying22 info39 rfl (by decide) (by decide) _ (flat (L.take k)) l A l.length cc (fun _ => True) (fun _ => False) rfl rfl ?O ?R ?K (fun _ h => h.elim) (fun _ _ => trivial) ?B ?S ?L ?_; (case O => exact HR.out.1); (case R => exact HC.out); (case K => exact (fun x cs h => h)); (case B => exact HR.out.2); (case S => exact HR.out.2.size); (case L => (have := HQQ.out.2; omega)); intro v2 w2 hR2 hB2 hg2 hb2; have H2 := Aside0.mk (And.intro hR2 hB2); clear hR2 hB2 hg2 hb2)
          refine ⟨⟨k + 1, by omega, by go_num, ⟨by rw [HQQ.out.1]; exact H2.out.1, H2.out.2⟩⟩, by simp [intOf]; omega⟩
        · obtain rfl : k = L.length := by omega
          go_wp2
          go_ret
          refine ⟨_, rfl, ?_, HR.out.2⟩
          have := HR.out.1
          rw [List.take_length] at this
          exact this

set_option maxHeartbeats 1000000 in
theorem grow_Text (n : Nat) (w : World) (hn : n ≤ 300000) : Calls Try.prog 73 #[.slice none 0 0, .int .i64 n] w fun e w' => ∃ v, e = .returned v ∧ Kd.R Kd.string 9 w' w.heap.size (fun _ => True) v [] ∧ Below w.heap.size w w' := by
  rcases Nat.eq_zero_or_pos n with h0 | h0
  · subst h0
    go_enter Try.func73, Try.ntmps73
    go_wp2
    go_ret
    exact ⟨_, rfl, Kd.R_nil _ _ _ _ _, Below.refl _ _⟩
  · obtain ⟨i0, hi, hz0, hz1, hz2⟩ := info_parts info9
    have hge := grownCap_ge w n 0 9
    have hle := grownCap_le_maxLen w n 0 9 (by unfold maxLen; omega)
    obtain ⟨C, hC⟩ : ∃ C, C = Builtin.zeroCells (Value.cells (.string ⟨#[]⟩)) n ++ Builtin.zeroCells (Value.cells (.string ⟨#[]⟩)) (grownCap w n 0 9 - n) := ⟨_, rfl⟩
    have hrz : ∀ ty, (Builtin.append_ #[23, 3] ty #[.slice none 0 0, .int .i64 n]).run Try.prog w = .ok (.slice (some ⟨w.heap.size, 0, none⟩) n (grownCap w n 0 9)) (w.drew.alloc (.cells C 9)) := fun ty => by
      rw [hC]
      exact Lib.run_append_nil_zeros w 23 3 ty 9 i0 (.string ⟨#[]⟩) .i64 .i64 Try.underlying23 Try.underlying3 hi hz0 n h0 (by rw [hz1]; decide) (by omega) (by rw [hz2]; omega)
    have hCs : C.size = grownCap w n 0 9 * Kd.sz Kd.string := by
      rw [hC, Array.size_append, size_zeroCells, size_zeroCells, ← Nat.add_mul, Nat.add_sub_cancel' hge]
      rfl
    have HC := Aside0.mk hCs
    have HLE := Aside0.mk hle
    clear hC hCs hz0 hi hle
    unfold maxLen at HLE
    generalize grownCap w n 0 9 = G at *
    have hG := HLE.out
    have g1 : (0 : Int) < (n : Int) := by omega
    have HRZ := Aside0.mk hrz
    clear hrz
    go_enter Try.func73, Try.ntmps73
    go_wp2_with (at_builtin; refine Lib.wpList_append_run _ rfl (.tmp 20) (.tmp 21) 23 3 rfl (.slice none 0 0) (.int .i64 n) rfl rfl _ _ (HRZ.out _) ?_)
    go_ret
    exact ⟨_, rfl, R_grown_empty Kd.string w w.drew 9 C G (by unfold maxLen; exact HLE.out) HC.out rfl, ((Below.refl w.heap.size w).drew).alloc (Nat.le_refl _) _⟩

set_option maxRecDepth 100000 in
set_option maxHeartbeats 2000000 in
theorem concat_Text (L : List (Option Addr × Nat × List ByteArray)) (g n c : Nat) (w : World) (hn : L.length = n) (hn2 : n ≤ 100) (hL : RowsAt Kd.string w g L) (hb : (flat L).length ≤ 300000) :
    Calls Try.prog 54 #[.slice (some ⟨g, 0, none⟩) n c] w fun e w' => ∃ v, e = .returned v ∧ Kd.R Kd.string 9 w' w.heap.size (fun _ => True) v (flat L) ∧ Below w.heap.size w w' := by
  subst hn
  have HLA := Aside0.mk hL
  have HG := Aside0.mk (fun (n : Nat) w (hn : n ≤ 300000) => grow_Text n w hn)
  clear hL
  go_enter Try.func54, Try.ntmps54
  go_wp2
  go_loop [3, 5, 11] (fun s _ i => ∃ k : Nat, k ≤ L.length ∧ i = .int .i64 k ∧ ∃ m : Nat, s = .int .i64 m ∧ (flat (L.take k)).length = m) (fun _ _ i => L.length - (intOf i).toNat)
  case atStart => exact ⟨0, Nat.zero_le _, rfl, 0, rfl, rfl⟩
  case round =>
    obtain ⟨k, hk, rfl, m, rfl, hm⟩ := hrel
    have hml := flat_le L k
    by_cases hlt : k < L.length
    · obtain ⟨⟨A, cc, l⟩, hx⟩ : ∃ x, L[k]? = some x := ⟨_, List.getElem?_eq_getElem hlt⟩
      obtain ⟨q0, q1, q2⟩ := HLA.out k _ hx
      dsimp only at q0 q1 q2
      have hst : flat (L.take (k + 1)) = flat (L.take k) ++ l := flat_step L k _ hx
      have hsl := flat_le L (k + 1)
      have hm2 : (flat (L.take (k + 1))).length = m + l.length := by rw [hst, List.length_append, hm]
      have HM := Aside0.mk hm2
      have i0 : (0 : Int) ≤ (k : Int) := Int.natCast_nonneg _
      have i1 : (k : Int) < (L.length : Int) := by omega
      have i2 : (m : Int) + (l.length : Int) ≤ 300000 := by omega
      have i3 : ¬ ((m : Int) + (l.length : Int)) < 0 := by omega
      clear q2 hst hsl hx hm2 hm hml
      go_wp2
      refine ⟨⟨k + 1, by omega, by go_num, m + l.length, by go_num, HM.out⟩, by simp [intOf]; omega⟩
    · obtain rfl : k = L.length := by omega
      rw [List.take_length] at hm
      have hm3 : m ≤ 300000 := by omega
      clear hml
      go_wp2_with (go_at_call 73; refine (HG.out m _ hm3).mono ?_; rintro e w1 ⟨v1, rfl, hR1, hB1⟩)
      have H1 := Aside0.mk (And.intro hR1 hB1)
      clear hR1 hB1
      go_loopw [6, 8, 27] (fun v _ i wr => ∃ k : Nat, k ≤ L.length ∧ i = .int .i64 k ∧ Aside0 (Kd.R Kd.string 9 wr w.heap.size (fun _ => True) v (flat (L.take k)) ∧ Below w.heap.size w wr)) (fun _ _ i _ => L.length - (intOf i).toNat)
      case atStart => exact ⟨0, Nat.zero_le _, rfl, H1⟩
      case round =>
        obtain ⟨k, hk, rfl, HR⟩ := hrel
        by_cases hlt : k < L.length
        · obtain ⟨⟨A, cc, l⟩, hx⟩ : ∃ x, L[k]? = some x := ⟨_, List.getElem?_eq_getElem hlt⟩
          obtain ⟨p0, p1, p2⟩ := HLA.out k _ hx
          dsimp only at p0 p1 p2
          have hst : flat (L.take (k + 1)) = flat (L.take k) ++ l := flat_step L k _ hx
          have hsl := flat_le L (k + 1)
          rw [hst, List.length_append] at hsl
          have HQQ := Aside0.mk (And.intro hst hsl)
          have q0 : wr.cell? ⟨g, k, none⟩ = some (.slice A l.length cc) := (HR.out.2.cell (World.block_lt_of_cell? w _ p0)).trans p0
          have HC := Aside0.mk (Kd.C_below p2 HR.out.2)
          have i0 : (0 : Int) ≤ (k : Int) := Int.natCast_nonneg _
          have i1 : (k : Int) < (L.length : Int) := by omega
          clear p0 p1 p2 hst hsl hx
          go_wp2_with (at_builtin; refine Kd.R_append_rows (Rr := Kd.K Kd.string wr) Kd.string (w0 := w) w.heap.size rfl (.tmp 31) (.tmp 32) 23 9 (.string ⟨#[]⟩) 16 rfl Try.underlying23 info9 rfl (by decide) (by decide) _ (flat (L.take k)) l A l.length cc (fun _ => True) (fun _ => False) rfl rfl ?O ?R ?K (fun _ h => h.elim) (fun _ _ => trivial) ?B ?S ?L ?_; (case O => exact HR.out.1); (case R => exact HC.out); (case K => exact (fun x cs h => h)); (case B => exact HR.out.2); (case S => exact HR.out.2.size); (case L => (have := HQQ.out.2; omega)); intro v2 w2 hR2 hB2 hg2 hb2; have H2 := Aside0.mk (And.intro hR2 hB2); clear hR2 hB2 hg2 hb2)
          refine ⟨⟨k + 1, by omega, by go_num, ⟨by rw [HQQ.out.1]; exact H2.out.1, H2.out.2⟩⟩, by simp [intOf]; omega⟩
        · obtain rfl : k = L.length := by omega
          go_wp2
          go_ret
          refine ⟨_, rfl, ?_, HR.out.2⟩
          have := HR.out.1
          rw [List.take_length] at this
          exact this

set_option maxHeartbeats 1000000 in
theorem grow_Num (n : Nat) (w : World) (hn : n ≤ 300000) : Calls Try.prog 74 #[.slice none 0 0, .int .i64 n] w fun e w' => ∃ v, e = .returned v ∧ Kd.R (Kd.int .u32) 65 w' w.heap.size (fun _ => True) v [] ∧ Below w.heap.size w w' := by
  rcases Nat.eq_zero_or_pos n with h0 | h0
  · subst h0
    go_enter Try.func74, Try.ntmps74
    go_wp2
    go_ret
    exact ⟨_, rfl, Kd.R_nil _ _ _ _ _, Below.refl _ _⟩
  · obtain ⟨i0, hi, hz0, hz1, hz2⟩ := info_parts info65
    have hge := grownCap_ge w n 0 65
    have hle := grownCap_le_maxLen w n 0 65 (by unfold maxLen; omega)
    obtain ⟨C, hC⟩ : ∃ C, C = Builtin.zeroCells (Value.cells (.int .u32 0)) n ++ Builtin.zeroCells (Value.cells (.int .u32 0)) (grownCap w n 0 65 - n) := ⟨_, rfl⟩
    have hrz : ∀ ty, (Builtin.append_ #[24, 3] ty #[.slice none 0 0, .int .i64 n]).run Try.prog w = .ok (.slice (some ⟨w.heap.size, 0, none⟩) n (grownCap w n 0 65)) (w.drew.alloc (.cells C 65)) := fun ty => by
      rw [hC]
      exact Lib.run_append_nil_zeros w 24 3 ty 65 i0 (.int .u32 0) .i64 .i64 Try.underlying24 Try.underlying3 hi hz0 n h0 (by rw [hz1]; decide) (by omega) (by rw [hz2]; omega)
    have hCs : C.size = grownCap w n 0 65 * Kd.sz (Kd.int .u32) := by
      rw [hC, Array.size_append, size_zeroCells, size_zeroCells, ← Nat.add_mul, Nat.add_sub_cancel' hge]
      rfl
    have HC := Aside0.mk hCs
    have HLE := Aside0.mk hle
    clear hC hCs hz0 hi hle
    unfold maxLen at HLE
    generalize grownCap w n 0 65 = G at *
    have hG := HLE.out
    have g1 : (0 : Int) < (n : Int) := by omega
    have HRZ := Aside0.mk hrz
    clear hrz
    go_enter Try.func74, Try.ntmps74
    go_wp2_with (at_builtin; refine Lib.wpList_append_run _ rfl (.tmp 20) (.tmp 21) 24 3 rfl (.slice none 0 0) (.int .i64 n) rfl rfl _ _ (HRZ.out _) ?_)
    go_ret
    exact ⟨_, rfl, R_grown_empty (Kd.int .u32) w w.drew 65 C G (by unfold maxLen; exact HLE.out) HC.out rfl, ((Below.refl w.heap.size w).drew).alloc (Nat.le_refl _) _⟩

set_option maxRecDepth 100000 in
set_option maxHeartbeats 2000000 in
theorem concat_Num (L : List (Option Addr × Nat × List Int)) (g n c : Nat) (w : World) (hn : L.length = n) (hn2 : n ≤ 100) (hL : RowsAt (Kd.int .u32) w g L) (hb : (flat L).length ≤ 300000) :
    Calls Try.prog 55 #[.slice (some ⟨g, 0, none⟩) n c] w fun e w' => ∃ v, e = .returned v ∧ Kd.R (Kd.int .u32) 65 w' w.heap.size (fun _ => True) v (flat L) ∧ Below w.heap.size w w' := by
  subst hn
  have HLA := Aside0.mk hL
  have HG := Aside0.mk (fun (n : Nat) w (hn : n ≤ 300000) => grow_Num n w hn)
  clear hL
  go_enter Try.func55, Try.ntmps55
  go_wp2
  go_loop [3, 5, 11] (fun s _ i => ∃ k : Nat, k ≤ L.length ∧ i = .int .i64 k ∧ ∃ m : Nat, s = .int .i64 m ∧ (flat (L.take k)).length = m) (fun _ _ i => L.length - (intOf i).toNat)
  case atStart => exact ⟨0, Nat.zero_le _, rfl, 0, rfl, rfl⟩
  case round =>
    obtain ⟨k, hk, rfl, m, rfl, hm⟩ := hrel
    have hml := flat_le L k
    by_cases hlt : k < L.length
    · obtain ⟨⟨A, cc, l⟩, hx⟩ : ∃ x, L[k]? = some x := ⟨_, List.getElem?_eq_getElem hlt⟩
      obtain ⟨q0, q1, q2⟩ := HLA.out k _ hx
      dsimp only at q0 q1 q2
      have hst : flat (L.take (k + 1)) = flat (L.take k) ++ l := flat_step L k _ hx
      have hsl := flat_le L (k + 1)
      have hm2 : (flat (L.take (k + 1))).length = m + l.length := by rw [hst, List.length_append, hm]
      have HM := Aside0.mk hm2
      have i0 : (0 : Int) ≤ (k : Int) := Int.natCast_nonneg _
      have i1 : (k : Int) < (L.length : Int) := by omega
      have i2 : (m : Int) + (l.length : Int) ≤ 300000 := by omega
      have i3 : ¬ ((m : Int) + (l.length : Int)) < 0 := by omega
      clear q2 hst hsl hx hm2 hm hml
      go_wp2
      refine ⟨⟨k + 1, by omega, by go_num, m + l.length, by go_num, HM.out⟩, by simp [intOf]; omega⟩
    · obtain rfl : k = L.length := by omega
      rw [List.take_length] at hm
      have hm3 : m ≤ 300000 := by omega
      clear hml
      go_wp2_with (go_at_call 74; refine (HG.out m _ hm3).mono ?_; rintro e w1 ⟨v1, rfl, hR1, hB1⟩)
      have H1 := Aside0.mk (And.intro hR1 hB1)
      clear hR1 hB1
      go_loopw [6, 8, 27] (fun v _ i wr => ∃ k : Nat, k ≤ L.length ∧ i = .int .i64 k ∧ Aside0 (Kd.R (Kd.int .u32) 65 wr w.heap.size (fun _ => True) v (flat (L.take k)) ∧ Below w.heap.size w wr)) (fun _ _ i _ => L.length - (intOf i).toNat)
      case atStart => exact ⟨0, Nat.zero_le _, rfl, H1⟩
      case round =>
        obtain ⟨k, hk, rfl, HR⟩ := hrel
        by_cases hlt : k < L.length
        · obtain ⟨⟨A, cc, l⟩, hx⟩ : ∃ x, L[k]? = some x := ⟨_, List.getElem?_eq_getElem hlt⟩
          obtain ⟨p0, p1, p2⟩ := HLA.out k _ hx
          dsimp only at p0 p1 p2
          have hst : flat (L.take (k + 1)) = flat (L.take k) ++ l := flat_step L k _ hx
          have hsl := flat_le L (k + 1)
          rw [hst, List.length_append] at hsl
          have HQQ := Aside0.mk (And.intro hst hsl)
          have q0 : wr.cell? ⟨g, k, none⟩ = some (.slice A l.length cc) := (HR.out.2.cell (World.block_lt_of_cell? w _ p0)).trans p0
          have HC := Aside0.mk (Kd.C_below p2 HR.out.2)
          have i0 : (0 : Int) ≤ (k : Int) := Int.natCast_nonneg _
          have i1 : (k : Int) < (L.length : Int) := by omega
          clear p0 p1 p2 hst hsl hx
          go_wp2_with (at_builtin; refine Kd.R_append_rows (Rr := Kd.K (Kd.int .u32) wr) (Kd.int .u32) (w0 := w) w.heap.size rfl (.tmp 31) (.tmp 32) 24 65 (.int .u32 0) 4 rfl Try.underlying24 info65 rfl (by decide) (by decide) _ (flat (L.take k)) l A l.length cc (fun _ => True) (fun _ => False) rfl rfl ?O ?R ?K (fun _ h => h.elim) (fun _ _ => trivial) ?B ?S ?L ?_; (case O => exact HR.out.1); (case R => exact HC.out); (case K => exact (fun x cs h => h)); (case B => exact HR.out.2); (case S => exact HR.out.2.size); (case L => (have := HQQ.out.2; omega)); intro v2 w2 hR2 hB2 hg2 hb2; have H2 := Aside0.mk (And.intro hR2 hB2); clear hR2 hB2 hg2 hb2)
          refine ⟨⟨k + 1, by omega, by go_num, ⟨by rw [HQQ.out.1]; exact H2.out.1, H2.out.2⟩⟩, by simp [intOf]; omega⟩
        · obtain rfl : k = L.length := by omega
          go_wp2
          go_ret
          refine ⟨_, rfl, ?_, HR.out.2⟩
          have := HR.out.1
          rw [List.take_length] at this
          exact this
end Go.Proofs.Ytejempihaknplaa.G
