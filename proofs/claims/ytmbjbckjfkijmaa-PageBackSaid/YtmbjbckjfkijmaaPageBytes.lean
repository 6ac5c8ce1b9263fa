/- PageBytes: which pages are right, and their bytes, by the program and by the reference. -/
import Derived.Test.YtmbjbckjfkijmaaLawP
namespace Go.Proofs.Ytmbjbckjfkijmaa
open Go.RowKit Go.Shelf
set_option linter.unusedVariables false

theorem encV_form (k : Int) (i t : Nat) (b : ByteArray) : ∃ z c, encV k i t b = .tuple #[.string z, .int .i64 c] := by
  unfold encV
  split
  · exact ⟨_, _, rfl⟩
  · exact ⟨_, _, rfl⟩

set_option maxRecDepth 100000 in
set_option maxHeartbeats 4000000 in
theorem pageBytes_walk (k : Int) (i t : Nat) (s : ByteArray) (w : World) (hk : -9223372036854775808 ≤ k ∧ k ≤ 9223372036854775807) (hi : i < 4294967296) (ht : t < 18446744073709551616) (hs : s.size ≤ maxLen) :
    Calls Try.prog 9 #[.agg #[.int .i64 k, .int .u32 i, .int .u64 t, .string s]] w fun e w' => e = .returned (.bool true) ∧ Below w.heap.size w w' := by
  have H0 := Lib.hid (fun w => shown3_any w)
  have H1 := Lib.hid (fun w => small_any k i t s w hs)
  obtain ⟨b, hb⟩ : ∃ b, text250 s = b := ⟨_, rfl⟩
  have hbl : b.size ≤ maxLen := by have := text250_size s; rw [hb] at this; unfold maxLen; omega
  rw [hb] at H1
  have h2 := fun w => encode_any k i t b w hk hi ht hbl
  have h3 := fun w => rpencode_any k i t b w hk hi ht hbl
  obtain ⟨z, c, hz⟩ := encV_form k i t b
  rw [hz] at h2 h3
  have h4 := fun w => right_any k i t b w hk hi ht hbl
  have h5 := fun w => rpright_any k i t b w hk hi ht hbl
  obtain ⟨r, hr⟩ : ∃ r, rightB k i t b.size = r := ⟨_, rfl⟩
  rw [hr] at h4 h5
  have H2 := Lib.hid h2
  have H3 := Lib.hid h3
  have H4 := Lib.hid h4
  have H5 := Lib.hid h5
  clear hz hr h2 h3 h4 h5 hb
  have hB := Blk.new w 60 #[.int .i64 k, .int .u32 (i : Int), .int .u64 (t : Int), .string s]
  have HB := Lib.hid hB
  clear hB
  go_enter Try.func9, Try.ntmps9
  go_wp2_with fail
  refine (H0.out _).mono ?_
  rintro e w1 ⟨rfl, hb1⟩
  have b1 := HB.out.below hb1 (by simp)
  have c0 : w1.cell? ⟨w.heap.size, 0, none⟩ = some (.int .i64 k) := b1.cell 0
  have c1 : w1.cell? ⟨w.heap.size, 1, none⟩ = some (.int .u32 (i : Int)) := b1.cell 1
  have c2 : w1.cell? ⟨w.heap.size, 2, none⟩ = some (.int .u64 (t : Int)) := b1.cell 2
  have c3 : w1.cell? ⟨w.heap.size, 3, none⟩ = some (.string s) := b1.cell 3
  have G1 := Lib.hid (And.intro b1 ((bl_al (bl_re w) _).trans (hb1.mono (by simp))))
  clear b1 hb1
  go_wp2_with fail
  refine (H1.out _).mono ?_
  rintro e w2 ⟨rfl, hb2⟩
  have b2 := G1.out.1.below hb2 G1.out.1.lt
  have G2 := Lib.hid (And.intro b2 (bl_tr G1.out.2 hb2))
  have f0 := b2.frozen 0
  have f1 := b2.frozen 1
  have f2 := b2.frozen 2
  have f3 := b2.frozen 3
  have d0 : w2.cell? ⟨w.heap.size, 0, none⟩ = some (.int .i64 k) := b2.cell 0
  have d1 : w2.cell? ⟨w.heap.size, 1, none⟩ = some (.int .u32 (i : Int)) := b2.cell 1
  have d2 : w2.cell? ⟨w.heap.size, 2, none⟩ = some (.int .u64 (t : Int)) := b2.cell 2
  have d3 : w2.cell? ⟨w.heap.size, 3, none⟩ = some (.string s) := b2.cell 3
  clear b2 hb2 c0 c1 c2 c3
  go_wp2_with fail
  refine (H2.out (set4 w2 w.heap.size (.int .i64 k) (.int .u32 (i : Int)) (.int .u64 (t : Int)) (.string b))).mono ?_
  rintro e w4 ⟨rfl, hb4⟩
  have b4 := (G2.out.1.set4 (.int .i64 k) (.int .u32 (i : Int)) (.int .u64 (t : Int)) (.string b)).below hb4 (G2.out.1.set4 _ _ _ _).lt
  have hb4' := bl_tr (below_set4 G2.out.2 (Nat.le_refl _) (.int .i64 k) (.int .u32 (i : Int)) (.int .u64 (t : Int)) (.string b)) hb4
  have c0 : w4.cell? ⟨w.heap.size, 0, none⟩ = some (.int .i64 k) := b4.cell 0
  have c1 : w4.cell? ⟨w.heap.size, 1, none⟩ = some (.int .u32 (i : Int)) := b4.cell 1
  have c2 : w4.cell? ⟨w.heap.size, 2, none⟩ = some (.int .u64 (t : Int)) := b4.cell 2
  have c3 : w4.cell? ⟨w.heap.size, 3, none⟩ = some (.string b) := b4.cell 3
  have G4 := Lib.hid (And.intro b4 hb4')
  clear b4 hb4 hb4' d0 d1 d2 d3 f0 f1 f2 f3
  go_wp2_with fail
  refine (H3.out _).mono ?_
  rintro e w5 ⟨rfl, hb5⟩
  have b5 := G4.out.1.below hb5 G4.out.1.lt
  have d0 : w5.cell? ⟨w.heap.size, 0, none⟩ = some (.int .i64 k) := b5.cell 0
  have d1 : w5.cell? ⟨w.heap.size, 1, none⟩ = some (.int .u32 (i : Int)) := b5.cell 1
  have d2 : w5.cell? ⟨w.heap.size, 2, none⟩ = some (.int .u64 (t : Int)) := b5.cell 2
  have d3 : w5.cell? ⟨w.heap.size, 3, none⟩ = some (.string b) := b5.cell 3
  have hlt := b5.lt
  have G5 := Lib.hid (bl_tr G4.out.2 hb5)
  clear b5 hb5 c0 c1 c2 c3
  go_wp2_with fail
  go_region_held3 (fun w' => w'.cell? ⟨w.heap.size, 0, none⟩ = some (.int .i64 k) ∧ w'.cell? ⟨w.heap.size, 1, none⟩ = some (.int .u32 (i : Int)) ∧ w'.cell? ⟨w.heap.size, 2, none⟩ = some (.int .u64 (t : Int)) ∧ w'.cell? ⟨w.heap.size, 3, none⟩ = some (.string b))
    (first
      | assumption
      | go_keep)
    (first
      | (go_at_call 34; ((with_reducible refine (H4.out _).mono ?_); rintro e w11 ⟨rfl, hb11⟩; obtain ⟨m11, l11⟩ := box_next hb11 (by assumption) (by assumption); have B11 := Lib.hid hb11; clear hb11))
      | (go_at_call 35; ((with_reducible refine (H5.out _).mono ?_); rintro e w12 ⟨rfl, hb12⟩; obtain ⟨m12, l12⟩ := box_next hb12 (by assumption) (by assumption); have B12 := Lib.hid hb12; clear hb12)))
  all_goals
    go_wp2
    go_ret
    exact ⟨rfl, bl_tr (bl_tr (bl_dr G5.out) B11.out) B12.out⟩
end Go.Proofs.Ytmbjbckjfkijmaa
