/- package disk: New, Sectors, Ops, Write, and all of a nil disk. -/
import Derived.Test.YtdaoiimjflplhaaDiskA
import Derived.Laws.MakeOwn
import Derived.Scope
namespace Go.Proofs.Ytdaoiimjflplhaa
open Go.RowKit Go.Shelf
attribute [local go_sem] Oper.semAt_some

section
variable {P : Program} {ops : Array Oper} {rest : List Oper} {a : Act} {w : World} {Q : Exit → Act → World → Prop} {ty : TypeId} {pos : String} {after : Array Edge} {dst : Option Tmp}
theorem pl_make (T e : TypeId) {l c : Operand} (n : Nat) (C : Array Value) (hm : (Instr.makeSlice T (.int .i64 n) (.int .i64 n)).run P w = .ok (.slice (some ⟨w.heap.size, 0, none⟩) n n) (w.alloc (.cells C e))) (hl : a.eval l = .int .i64 n) (hc : a.eval c = .int .i64 n)
    (h : wpList P ops Q rest (a.put dst (.slice (some ⟨w.heap.size, 0, none⟩) n n)) (w.alloc (.cells C e))) :
    wpList P ops Q (⟨dst, .makeSlice T l c, ty, pos, after, none⟩ :: rest) a w := by
  refine pl_run (.inl rfl) ?_ h
  simp [execOp, hl, hc, hm]
theorem run_make_n {T e : TypeId} {i : TypeInfo} {z : Value} (hu : P.underlying T = some (.slice e)) (hi : P.info? e = some i) (hz : i.zero = some z) (n : Nat) (hb : i.bytes * n ≤ 281474976710656) (h63 : n ≤ 9223372036854775807) (w : World) :
    (Instr.makeSlice T (.int .i64 n) (.int .i64 n)).run P w = .ok (.slice (some ⟨w.heap.size, 0, none⟩) n n) (w.alloc (.cells (madeCells z.cells (n * i.size)) e)) := by
  have hb' : (i.bytes : Int) * (n : Int) ≤ 281474976710656 := by
    have h : ((i.bytes * n : Nat) : Int) ≤ 281474976710656 := by omega
    rwa [Int.natCast_mul] at h
  have hr := run_make (P := P) w T e i z hu hi hz .i64 .i64 n n (by omega) (by omega) hb' (by omega)
  simp only [Int.toNat_natCast] at hr
  exact hr
end

/-- A new disk. -/
def Dk.new (n : Nat) : Dk := ⟨List.replicate n (List.replicate 64 0), [], 0⟩

theorem made_sector (Z : Array Value) (hZ : Z = (u8s (List.replicate 64 0)).toArray) (n j : Nat) (hj : j < n) : (madeCells Z n)[j]? = some (.int .u8 0) := by
  subst hZ
  have h64 : j % 64 < 64 := Nat.mod_lt _ (by omega)
  simp only [madeCells, Array.getElem?_map, Array.getElem?_range, hj, if_true, Option.map_some, List.size_toArray, u8s_length, List.length_replicate]
  congr 1
  rw [getElem!_pos _ _ (by simp only [List.size_toArray, u8s_length, List.length_replicate]; exact h64)]
  simp only [u8s, List.map_replicate, List.getElem_toArray, List.getElem_replicate]
  rfl

set_option maxRecDepth 100000 in
set_option maxHeartbeats 1000000 in
theorem new_no (n : Int) (w : World) (hn : n < 1 ∨ 65536 < n) :
    Calls Try.prog 17 #[.int .i64 n] w fun e w' => e = .returned (.tuple #[.pointer none, .int .i64 2]) ∧ Below w.heap.size w w' := by
  rcases hn with hn | hn
  · have h1 : decide (n < 1) = true := decide_eq_true hn
    go_enter Try.func17, Try.ntmps17
    go_wp2
    go_ret2
    exact ⟨rfl, bl_re w⟩
  · have h1 : decide (n < 1) = false := decide_eq_false (by omega)
    have h2 : decide (65536 < n) = true := decide_eq_true hn
    go_enter Try.func17, Try.ntmps17
    go_wp2
    go_ret2
    exact ⟨rfl, bl_re w⟩

set_option maxRecDepth 100000 in
set_option maxHeartbeats 1000000 in
theorem new_yes (S : Nat → Prop) (n : Nat) (w : World) (h1 : 1 ≤ n) (h2 : n ≤ 65536) (hS : ∀ k, w.heap.size ≤ k → S k) :
    Calls Try.prog 17 #[.int .i64 n] w fun e w' => ∃ g, e = .returned (.tuple #[.pointer (some ⟨g, 0, none⟩), .int .i64 0]) ∧ w.heap.size ≤ g ∧ Held S w' g (Dk.new n) ∧ Below w.heap.size w w' := by
  have d1 : decide ((n : Int) < 1) = false := decide_eq_false (by omega)
  have d2 : decide (65536 < (n : Int)) = false := decide_eq_false (by omega)
  obtain ⟨C, hm, hC, hCs⟩ : ∃ C : Array Value, (∀ w, (Instr.makeSlice 62 (.int .i64 n) (.int .i64 n)).run Try.prog w = .ok (.slice (some ⟨w.heap.size, 0, none⟩) n n) (w.alloc (.cells C 73))) ∧ (∀ j, j < n * 64 → C[j]? = some (.int .u8 0)) ∧ C.size = n * 64 := by
    obtain ⟨i0, hi, hz0, hz1, hz2⟩ := info_parts info_sector
    refine ⟨_, run_make_n Try.underlying62 hi hz0 n (by rw [hz2]; omega) (by omega), fun j hj => ?_, by rw [size_madeCells, hz1]⟩
    rw [hz1]
    exact made_sector _ (by simp only [Value.cells, u8s, List.map_replicate]; rfl) _ _ hj
  have HM := Lib.hid hm
  have HC := Lib.hid hC
  have H := Lib.hid (And.intro h1 (And.intro h2 hCs))
  clear h1 h2 hC hCs hm
  go_enter Try.func17, Try.ntmps17
  go_wp2_with ((with_reducible refine pl_make 62 73 n C (HM.out _) ?_ ?_ ?_); rfl; rfl)
  go_ret2
  obtain ⟨h1, h2, hCs⟩ := H.out
  refine ⟨w.heap.size + 1, rfl, by omega, ?_, bl_al (bl_al (bl_re w) _) _⟩
  have hb1 := (Blk.new w 73 C).alloc (.cells #[.slice (some ⟨w.heap.size, 0, none⟩) n n, .slice none 0 0, .int .i64 0] 67)
  have hb2 := Blk.new (w.alloc (.cells C 73)) 67 #[.slice (some ⟨w.heap.size, 0, none⟩) n n, .slice none 0 0, .int .i64 0]
  rw [World.size_alloc] at hb2
  refine ⟨w.heap.size, none, 0, ⟨by simpa [Dk.new] using h1, by simpa [Dk.new] using h2, ?_, by simp [Dk.new], by simp [Dk.new], by simp [Dk.new]⟩, ?_, ?_, ?_, ?_, by omega, by simp, hS _ (by omega), hS _ (Nat.le_refl _), by simp, by simp; omega, by simp⟩
  · intro s hs
    rw [List.eq_of_mem_replicate hs, List.length_replicate]
  · simp only [Dk.new, List.length_replicate, List.length_nil]
    exact hb2
  · intro k s hk
    have hkn : k < n := by have := (List.getElem?_eq_some_iff.1 hk).1; simpa [Dk.new] using this
    obtain rfl : s = List.replicate 64 0 := List.eq_of_mem_replicate (List.mem_of_getElem? hk)
    refine rangeAt_row hb1 _ fun j v hv => ?_
    rw [u8s_get] at hv
    have hj : j < 64 := by
      rcases Nat.lt_or_ge j 64 with h | h
      · exact h
      · rw [List.getElem?_eq_none (by rw [List.length_replicate]; exact h)] at hv
        cases hv
    rw [HC.out _ (by omega), ← hv, List.getElem?_replicate, if_pos hj]
    rfl
  · simp only [Dk.new, List.length_replicate]
    exact blk_there hb1 _ (by omega)
  · exact World.ownsRow_nil _ _ _ _

/-! ### a disk that is there -/
set_option maxHeartbeats 1000000 in
theorem write_nil (at_ : Int) (s : ByteArray) (w : World) : Calls Try.prog 21 #[.pointer none, .int .i64 at_, .string s] w fun e w' => e = .returned (.int .i64 1) ∧ Below w.heap.size w w' := by
  go_enter Try.func21, Try.ntmps21
  go_wp2_with (go_at_call 36; refine (check_nil _ _).mono ?_; rintro e w1 ⟨rfl, hb1⟩)
  go_ret
  exact ⟨rfl, hb1⟩
set_option maxHeartbeats 1000000 in
theorem read_nil (at_ : Int) (w : World) : Calls Try.prog 50 #[.pointer none, .int .i64 at_] w fun e w' => e = .returned (.tuple #[.string (mk []), .int .i64 1]) ∧ Below w.heap.size w w' := by
  go_enter Try.func50, Try.ntmps50
  go_wp2_with fail
  refine wp_scope_straight ?_
  go_wp2_with (go_at_call 36; refine (check_nil _ _).mono ?_; rintro e w1 ⟨rfl, hb1⟩)
  simp only [Exit.noGoto]
  go_ret2
  exact ⟨rfl, (bl_al (bl_re w) _).trans (hb1.mono (by simp))⟩
set_option maxHeartbeats 1000000 in
theorem sync_nil (w : World) : Calls Try.prog 27 #[.pointer none] w fun e w' => e = .returned (.int .i64 1) ∧ Below w.heap.size w w' := by
  go_enter Try.func27, Try.ntmps27
  go_wp2
  go_ret
  exact ⟨rfl, bl_al (bl_re w) _⟩
set_option maxHeartbeats 1000000 in
theorem unsynced_nil (w : World) : Calls Try.prog 26 #[.pointer none] w fun e w' => e = .returned (.slice none 0 0) ∧ Below w.heap.size w w' := by
  go_enter Try.func26, Try.ntmps26
  go_wp2
  go_ret
  exact ⟨rfl, bl_re w⟩
set_option maxHeartbeats 1000000 in
theorem crash_nil (so : Option Addr) (n cap : Nat) (w : World) : Calls Try.prog 28 #[.pointer none, .slice so n cap] w fun e w' => e = .returned (.int .i64 1) ∧ Below w.heap.size w w' := by
  go_enter Try.func28, Try.ntmps28
  go_wp2
  go_ret
  exact ⟨rfl, bl_al (bl_al (bl_re w) _) _⟩
end Go.Proofs.Ytdaoiimjflplhaa
