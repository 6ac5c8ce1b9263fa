/- Clone of package slices at []string, []api.Pair and []uint32: a new row of the same elements; whatever lay lies as it lay. Condition: fewer than 2^42 elements. -/
import Derived.Test.YtejempihaknplaaNdM
import Derived.WalkSpells
namespace Go.Proofs.Ytejempihaknplaa.G
open Go.RowKit Go.Proofs.YtejempihaknplaaW.PrintWords Go.Proofs.YtejempihaknplaaW.PrintLast Go.Proofs.YtejempihaknplaaW.PrintMore
set_option linter.unusedVariables false

theorem own_empty (W : World) (base : Nat) (e : TypeId) (size : Nat) (hb : base ≤ W.heap.size) : (W.alloc (.cells #[] e)).ownsRow base e size (.slice (some ⟨W.heap.size, 0, none⟩) 0 0) 0 [] :=
  ⟨by simp, .inr ⟨W.heap.size, 0, #[], rfl, hb, Go.heap_alloc_new W _, by simp, by simp [maxLen], by simp, by simp⟩⟩
theorem reads_nil {α : Type} {d : Kd α} {w : World} {n : Nat} {l : List α} (h : Kd.C d w none n l) : l = [] := by
  rcases Nat.eq_zero_or_pos n with h0 | h0
  · exact List.eq_nil_of_length_eq_zero (h.1.trans h0)
  · obtain ⟨ad, h, _⟩ := h.2.2 h0
    cases h
theorem R_empty {α : Type} (d : Kd α) (W : World) (base : Nat) (e : TypeId) (hb : base ≤ W.heap.size) : d.R e (W.alloc (.cells #[] e)) base (fun _ => True) (.slice (some ⟨W.heap.size, 0, none⟩) 0 0) [] :=
  ⟨fun _ _ => trivial, [], own_empty W base e d.sz hb, Reps.none _ _⟩

set_option maxHeartbeats 1000000 in
theorem slices_Clone_string_string.calls (A0 : Option Addr) (c0 : Nat) (l0 : List ByteArray) (r : List ByteArray) (w : World) (hr0 : Kd.C Kd.string w A0 l0.length l0) (hc0 : l0.length ≤ c0) (h : slices_Clone_string_string.f l0 = some r) :
    Calls Try.prog 69 #[.slice A0 l0.length c0] w fun e w' => ∃ v0_ : Value, e = .returned (v0_) ∧ Kd.R Kd.string 9 w' w.heap.size (fun _ => True) v0_ r ∧ Below w.heap.size w w' := by
  unfold slices_Clone_string_string.f at h
  split at h
  · rename_i hl
    obtain rfl := Option.some.inj h
    clear h
    have hn := fun (w : World) (a : Option Addr) (n c n' c' : Nat) => Lib.run_eql_slice_nil w 23 9 a n c n' c' Try.underlying23
    have HR := Aside0.mk hr0
    have HL := Aside0.mk hl
    clear hr0 hl
    cases A0 with
    | none =>
      go_enter Try.func69, Try.ntmps69
      go_wp2
      go_ret
      exact ⟨_, rfl, by rw [reads_nil HR.out]; exact Kd.R_nil _ _ _ _ _, Below.refl _ _⟩
    | some ad =>
      go_enter Try.func69, Try.ntmps69
      go_wp2_with (at_builtin; refine Kd.R_append_rows (Rr := Kd.K Kd.string w) Kd.string (w0 := w) w.heap.size rfl (.tmp 5) (.tmp 6) 23 9 (.string ⟨#[]⟩) 16 rfl Try.underlying23 info9 rfl (by decide) (by decide) (.slice (some ⟨w.heap.size, 0, none⟩) 0 0) [] l0 (some ad) l0.length c0 (fun _ => True) (fun _ => False) rfl rfl ?O ?R ?K (fun _ h => h.elim) (fun _ _ => trivial) ?B ?S ?L ?_; (case O => exact R_empty Kd.string w w.heap.size 9 (Nat.le_refl _)); (case R => exact ReadsRow.imp_ HR.out ((Below.refl w.heap.size w).alloc (Nat.le_refl _) _) (fun _ _ h => h)); (case K => exact (fun x cs h => h)); (case B => exact (Below.refl w.heap.size w).alloc (Nat.le_refl _) _); (case S => simp); (case L => (have := HL.out; simp only [List.length_nil]; omega)); intro v1 w1 hR1 hB1 hg1 hb1; have HR1 := Aside0.mk (show Kd.R Kd.string 9 w1 w.heap.size (fun _ => True) v1 l0 from hR1); have HB1 := Aside0.mk hB1; clear hR1 hB1 hg1 hb1)
      go_ret
      exact ⟨_, rfl, HR1.out, HB1.out⟩
  · cases h

set_option maxHeartbeats 1000000 in
theorem slices_Clone_Pair.calls (A0 : Option Addr) (c0 : Nat) (l0 : List S39) (r : List S39) (w : World) (hr0 : Kd.C k39 w A0 l0.length l0) (hc0 : l0.length ≤ c0) (h : slices_Clone_Pair.f l0 = some r) :
    Calls Try.prog 48 #[.slice A0 l0.length c0] w fun e w' => ∃ v0_ : Value, e = .returned (v0_) ∧ Kd.R k39 39 w' w.heap.size (fun _ => True) v0_ r ∧ Below w.heap.size w w' := by
  unfold slices_Clone_Pair.f at h
  split at h
  · rename_i hl
    obtain rfl := Option.some.inj h
    clear h
    have hn := fun (w : World) (a : Option Addr) (n c n' c' : Nat) => Lib.run_eql_slice_nil w 22 39 a n c n' c' Try.underlying22
    have HR := Aside0.mk hr0
    have HL := Aside0.mk hl
    clear hr0 hl
    cases A0 with
    | none =>
      go_enter Try.func48, Try.ntmps48
      go_wp2
      go_ret
      exact ⟨_, rfl, by rw [reads_nil HR.out]; exact Kd.R_nil _ _ _ _ _, Below.refl _ _⟩
    | some ad =>
      go_enter Try.func48, Try.ntmps48
      go_wp2_with (at_builtin; refine Kd.R_append_rows (Rr := Kd.K k39 w) k39 (w0 := w) w.heap.size rfl (.tmp 5) (.tmp 6) 22 39 (.agg #[(.string ⟨#[]⟩), (.string ⟨#[]⟩)]) 32 rfl Try.underlying22 info39 rfl (by decide) (by decide) (.slice (some ⟨w.heap.size, 0, none⟩) 0 0) [] l0 (some ad) l0.length c0 (fun _ => True) (fun _ => False) rfl rfl ?O ?R ?K (fun _ h => h.elim) (fun _ _ => trivial) ?B ?S ?L ?_; (case O => exact R_empty k39 w w.heap.size 39 (Nat.le_refl _)); (case R => exact ReadsRow.imp_ HR.out ((Below.refl w.heap.size w).alloc (Nat.le_refl _) _) (fun _ _ h => h)); (case K => exact (fun x cs h => h)); (case B => exact (Below.refl w.heap.size w).alloc (Nat.le_refl _) _); (case S => simp); (case L => (have := HL.out; simp only [List.length_nil]; omega)); intro v1 w1 hR1 hB1 hg1 hb1; have HR1 := Aside0.mk (show Kd.R k39 39 w1 w.heap.size (fun _ => True) v1 l0 from hR1); have HB1 := Aside0.mk hB1; clear hR1 hB1 hg1 hb1)
      go_ret
      exact ⟨_, rfl, HR1.out, HB1.out⟩
  · cases h

set_option maxHeartbeats 1000000 in
theorem slices_Clone_uint32_uint32.calls (A0 : Option Addr) (c0 : Nat) (l0 : List Int) (r : List Int) (w : World) (hr0 : Kd.C (Kd.int .u32) w A0 l0.length l0) (hc0 : l0.length ≤ c0) (h : slices_Clone_uint32_uint32.f l0 = some r) :
    Calls Try.prog 71 #[.slice A0 l0.length c0] w fun e w' => ∃ v0_ : Value, e = .returned (v0_) ∧ Kd.R (Kd.int .u32) 65 w' w.heap.size (fun _ => True) v0_ r ∧ Below w.heap.size w w' := by
  unfold slices_Clone_uint32_uint32.f at h
  split at h
  · rename_i hl
    obtain rfl := Option.some.inj h
    clear h
    have hn := fun (w : World) (a : Option Addr) (n c n' c' : Nat) => Lib.run_eql_slice_nil w 24 65 a n c n' c' Try.underlying24
    have HR := Aside0.mk hr0
    have HL := Aside0.mk hl
    clear hr0 hl
    cases A0 with
    | none =>
      go_enter Try.func71, Try.ntmps71
      go_wp2
      go_ret
      exact ⟨_, rfl, by rw [reads_nil HR.out]; exact Kd.R_nil _ _ _ _ _, Below.refl _ _⟩
    | some ad =>
      go_enter Try.func71, Try.ntmps71
      go_wp2_with (at_builtin; refine Kd.R_append_rows (Rr := Kd.K (Kd.int .u32) w) (Kd.int .u32) (w0 := w) w.heap.size rfl (.tmp 5) (.tmp 6) 24 65 (.int .u32 0) 4 rfl Try.underlying24 info65 rfl (by decide) (by decide) (.slice (some ⟨w.heap.size, 0, none⟩) 0 0) [] l0 (some ad) l0.length c0 (fun _ => True) (fun _ => False) rfl rfl ?O ?R ?K (fun _ h => h.elim) (fun _ _ => trivial) ?B ?S ?L ?_; (case O => exact R_empty (Kd.int .u32) w w.heap.size 65 (Nat.le_refl _)); (case R => exact ReadsRow.imp_ HR.out ((Below.refl w.heap.size w).alloc (Nat.le_refl _) _) (fun _ _ h => h)); (case K => exact (fun x cs h => h)); (case B => exact (Below.refl w.heap.size w).alloc (Nat.le_refl _) _); (case S => simp); (case L => (have := HL.out; simp only [List.length_nil]; omega)); intro v1 w1 hR1 hB1 hg1 hb1; have HR1 := Aside0.mk (show Kd.R (Kd.int .u32) 65 w1 w.heap.size (fun _ => True) v1 l0 from hR1); have HB1 := Aside0.mk hB1; clear hR1 hB1 hg1 hb1)
      go_ret
      exact ⟨_, rfl, HR1.out, HB1.out⟩
  · cases h

end Go.Proofs.Ytejempihaknplaa.G
