/- MetaBytes: which metas are right, and their bytes, by the program and by the reference. -/
import Derived.Test.YtdaoiimjflplhaaLawM
import Derived.Test.YtdaoiimjflplhaaRefMetaD
namespace Go.Proofs.Ytdaoiimjflplhaa
open Go.RowKit Go.Shelf
set_option linter.unusedVariables false

theorem mencV_form (t r h f : Nat) : ∃ z c, mencV t r h f = .tuple #[.string z, .int .i64 c] := by
  unfold mencV
  split
  · exact ⟨_, _, rfl⟩
  · exact ⟨_, _, rfl⟩

set_option maxRecDepth 100000 in
set_option maxHeartbeats 4000000 in
theorem metaBytes_walk (t r h f : Nat) (w : World) (ht : t < 18446744073709551616) (hr : r < 4294967296) (hh : h < 4294967296) (hf : f < 4294967296) :
    Calls Try.prog 3 #[metaV t r h f] w fun e w' => e = .returned (.bool true) ∧ Below w.heap.size w w' := by
  have H0 := Lib.hid (fun w => shown4_any w)
  have h2 := fun w => mencode_any t r h f w ht hr hh hf
  have h3 := fun w => rmencode_any t r h f w ht hr hh hf
  obtain ⟨z, c, hz⟩ := mencV_form t r h f
  rw [hz] at h2 h3
  have h4 := fun w => mright_any t r h f w ht hr hh hf
  have h5 := fun w => rmright_any t r h f w
  obtain ⟨q, hq⟩ : ∃ q, mRightB t r h f = q := ⟨_, rfl⟩
  rw [hq] at h4 h5
  unfold metaV at h2 h3 h5 ⊢
  have H2 := Lib.hid h2
  have H3 := Lib.hid h3
  have H4 := Lib.hid h4
  have H5 := Lib.hid h5
  clear hz hq h2 h3 h4 h5 ht hr hh hf
  have hB := Blk.new w 25 #[.int .u64 (t : Int), .int .u32 (r : Int), .int .u32 (h : Int), .int .u32 (f : Int)]
  have HB := Lib.hid hB
  clear hB
  go_enter Try.func3, Try.ntmps3
  go_wp2_with fail
  refine (H0.out _).mono ?_
  rintro e w1 ⟨rfl, hb1⟩
  have b1 := HB.out.below hb1 (by simp)
  have c0 : w1.cell? ⟨w.heap.size, 0, none⟩ = some (.int .u64 (t : Int)) := b1.cell 0
  have c1 : w1.cell? ⟨w.heap.size, 1, none⟩ = some (.int .u32 (r : Int)) := b1.cell 1
  have c2 : w1.cell? ⟨w.heap.size, 2, none⟩ = some (.int .u32 (h : Int)) := b1.cell 2
  have c3 : w1.cell? ⟨w.heap.size, 3, none⟩ = some (.int .u32 (f : Int)) := b1.cell 3
  have G1 := Lib.hid (And.intro b1 ((bl_al (bl_re w) _).trans (hb1.mono (by simp))))
  clear b1 hb1
  go_wp2_with fail
  refine (H2.out _).mono ?_
  rintro e w4 ⟨rfl, hb4⟩
  have b4 := G1.out.1.below hb4 G1.out.1.lt
  have d0 : w4.cell? ⟨w.heap.size, 0, none⟩ = some (.int .u64 (t : Int)) := b4.cell 0
  have d1 : w4.cell? ⟨w.heap.size, 1, none⟩ = some (.int .u32 (r : Int)) := b4.cell 1
  have d2 : w4.cell? ⟨w.heap.size, 2, none⟩ = some (.int .u32 (h : Int)) := b4.cell 2
  have d3 : w4.cell? ⟨w.heap.size, 3, none⟩ = some (.int .u32 (f : Int)) := b4.cell 3
  have G4 := Lib.hid (And.intro b4 (bl_tr G1.out.2 hb4))
  clear b4 hb4 c0 c1 c2 c3
  go_wp2_with fail
  refine (H3.out _).mono ?_
  rintro e w5 ⟨rfl, hb5⟩
  have b5 := G4.out.1.below hb5 G4.out.1.lt
  have c0 : w5.cell? ⟨w.heap.size, 0, none⟩ = some (.int .u64 (t : Int)) := b5.cell 0
  have c1 : w5.cell? ⟨w.heap.size, 1, none⟩ = some (.int .u32 (r : Int)) := b5.cell 1
  have c2 : w5.cell? ⟨w.heap.size, 2, none⟩ = some (.int .u32 (h : Int)) := b5.cell 2
  have c3 : w5.cell? ⟨w.heap.size, 3, none⟩ = some (.int .u32 (f : Int)) := b5.cell 3
  have hlt := b5.lt
  have G5 := Lib.hid (bl_tr G4.out.2 hb5)
  clear b5 hb5 d0 d1 d2 d3
  go_wp2_with fail
  go_region_held3 (fun w' => w'.cell? ⟨w.heap.size, 0, none⟩ = some (.int .u64 (t : Int)) ∧ w'.cell? ⟨w.heap.size, 1, none⟩ = some (.int .u32 (r : Int)) ∧ w'.cell? ⟨w.heap.size, 2, none⟩ = some (.int .u32 (h : Int)) ∧ w'.cell? ⟨w.heap.size, 3, none⟩ = some (.int .u32 (f : Int)))
    (first
      | assumption
      | go_keep)
    (first
      | (go_at_call 13; ((with_reducible refine (H4.out _).mono ?_); rintro e w11 ⟨rfl, hb11⟩; obtain ⟨m11, l11⟩ := mbox_next hb11 (by assumption) (by assumption); have B11 := Lib.hid hb11; clear hb11))
      | (go_at_call 14; ((with_reducible refine (H5.out _).mono ?_); rintro e w12 ⟨rfl, hb12⟩; obtain ⟨m12, l12⟩ := mbox_next hb12 (by assumption) (by assumption); have B12 := Lib.hid hb12; clear hb12)))
  all_goals
    go_wp2
    go_ret
    exact ⟨rfl, bl_tr (bl_tr (bl_dr G5.out) B11.out) B12.out⟩
end Go.Proofs.Ytdaoiimjflplhaa
