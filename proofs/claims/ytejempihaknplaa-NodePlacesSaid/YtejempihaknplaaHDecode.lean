/- Decode of package node, of kind 9 and no bytes: an error. Whatever lay lies as it lay. Condition: that kind, no bytes. -/
import Derived.Test.YtejempihaknplaaHEncode
import Derived.Test.YtejempihaknplaaShelf
import Derived.Test.YtejempihaknplaaHEnd
import Derived.ScopeJumps
namespace Go.Proofs.Ytejempihaknplaa.G
open Go.RowKit Go.Shelf Go.Proofs.YtejempihaknplaaW.PrintWords Go.Proofs.YtejempihaknplaaW.PrintLast Go.Proofs.YtejempihaknplaaW.PrintMore
set_option linter.unusedVariables false

/-- A row of no elements. -/
theorem C_nil {α : Type} (d : Kd α) (w : World) : Kd.C d w none 0 [] := ⟨rfl, by omega, fun h => absurd h (by omega)⟩
set_option maxRecDepth 100000 in
set_option maxHeartbeats 1000000 in
theorem take_none (b : Nat) (w : World) (h : Blk w b 93 #[.string ⟨#[]⟩, .bool false]) :
    Calls Try.prog 56 #[.pointer (some ⟨b, 0, none⟩), .int .i64 1] w fun e w' => e = .returned (.string ⟨#[0]⟩) ∧ w.setCell ⟨b, 1, none⟩ (.bool true) = w' := by
  have c0 : w.cell? ⟨b, 0, none⟩ = some (.string ⟨#[]⟩) := h.cell 0
  have c1 : w.cell? ⟨b, 1, none⟩ = some (.bool false) := h.cell 1
  have f1 := h.frozen 1
  clear h
  go_enter Try.func56, Try.ntmps56
  go_wp2_with fail
  refine (Try.strings_Repeat_one _ _).mono ?_
  rintro e w1 ⟨rfl, rfl⟩
  go_wp2
  go_ret
  exact ⟨rfl, rfl⟩

set_option maxRecDepth 100000 in
set_option maxHeartbeats 2000000 in
theorem decode_none (w : World) :
    Calls Try.prog 31 #[.int .i64 9, .string ⟨#[]⟩] w fun e w' => e = .returned (.tuple #[.agg #[.slice none 0 0, .slice none 0 0, .slice none 0 0], .int .i64 60]) ∧ Below w.heap.size w w' := by
  have hen := fun W => node_Encode.calls none 0 [] none 0 [] none 0 [] 1 ⟨#[0]⟩ 0 W (C_nil _ _) (Nat.le_refl _) (C_nil _ _) (Nat.le_refl _) (C_nil _ _) (Nat.le_refl _) (by decide +kernel)
  have HE := Lib.hid hen
  clear hen
  go_enter Try.func31, Try.ntmps31
  go_wp2
  refine wp_scope_straight ?_
  go_wp2_with fail
  have k0 : Blk (((w.alloc (.cells #[.slice none 0 0, .slice none 0 0, .slice none 0 0] 26)).alloc (.cells #[.string ⟨#[]⟩, .bool false] 93)).alloc (.cells #[.slice none 0 0, .slice none 0 0, .slice none 0 0] 26)) w.heap.size 26 #[.slice none 0 0, .slice none 0 0, .slice none 0 0] := ((Blk.new w _ _).alloc _).alloc _
  have k1 : Blk (((w.alloc (.cells #[.slice none 0 0, .slice none 0 0, .slice none 0 0] 26)).alloc (.cells #[.string ⟨#[]⟩, .bool false] 93)).alloc (.cells #[.slice none 0 0, .slice none 0 0, .slice none 0 0] 26)) (w.heap.size + 1) 93 #[.string ⟨#[]⟩, .bool false] := by
    have := (Blk.new (w.alloc (.cells #[.slice none 0 0, .slice none 0 0, .slice none 0 0] 26)) 93 #[.string ⟨#[]⟩, .bool false]).alloc (.cells #[.slice none 0 0, .slice none 0 0, .slice none 0 0] 26)
    rw [World.size_alloc] at this
    exact this
  have k2 : Blk (((w.alloc (.cells #[.slice none 0 0, .slice none 0 0, .slice none 0 0] 26)).alloc (.cells #[.string ⟨#[]⟩, .bool false] 93)).alloc (.cells #[.slice none 0 0, .slice none 0 0, .slice none 0 0] 26)) (w.heap.size + 1 + 1) 26 #[.slice none 0 0, .slice none 0 0, .slice none 0 0] := by
    have := Blk.new ((w.alloc (.cells #[.slice none 0 0, .slice none 0 0, .slice none 0 0] 26)).alloc (.cells #[.string ⟨#[]⟩, .bool false] 93)) 26 #[.slice none 0 0, .slice none 0 0, .slice none 0 0]
    rw [World.size_alloc, World.size_alloc] at this
    exact this
  have kB : Below w.heap.size w (((w.alloc (.cells #[.slice none 0 0, .slice none 0 0, .slice none 0 0] 26)).alloc (.cells #[.string ⟨#[]⟩, .bool false] 93)).alloc (.cells #[.slice none 0 0, .slice none 0 0, .slice none 0 0] 26)) := bl_al (bl_al (bl_al (bl_re w) _) _) _
  generalize (((w.alloc (.cells #[.slice none 0 0, .slice none 0 0, .slice none 0 0] 26)).alloc (.cells #[.string ⟨#[]⟩, .bool false] 93)).alloc (.cells #[.slice none 0 0, .slice none 0 0, .slice none 0 0] 26)) = W0 at *
  refine (take_none _ W0 k1).mono ?_
  rintro e w1 ⟨rfl, rfl⟩
  have j0 := k0.far (p := ⟨w.heap.size + 1, 1, none⟩) (by simp) (.bool true)
  have j1 := k1.set_ 1 (.bool true)
  have j2 := k2.far (p := ⟨w.heap.size + 1, 1, none⟩) (by simp) (.bool true)
  have jB := bl_st kB (p := ⟨w.heap.size + 1, 1, none⟩) (by simp) (.bool true)
  generalize W0.setCell ⟨w.heap.size + 1, 1, none⟩ (.bool true) = W1 at *
  have c0 : W1.cell? ⟨w.heap.size + 1 + 1, 0, none⟩ = some (.slice none 0 0) := j2.cell 0
  have c1 : W1.cell? ⟨w.heap.size + 1 + 1, 1, none⟩ = some (.slice none 0 0) := j2.cell 1
  have c2 : W1.cell? ⟨w.heap.size + 1 + 1, 2, none⟩ = some (.slice none 0 0) := j2.cell 2
  have HJ := Lib.hid (And.intro j0 (And.intro j1 jB))
  clear k0 k1 k2 kB j0 j1 j2 jB
  have hd : decide ((0 : Int) < wrap64 (((⟨#[0]⟩ : ByteArray)[0]'(by decide)).toNat : Int)) = false := by decide +kernel
  go_wp2_with fail
  refine wp_label ?_
  go_wp2_with fail
  refine wp_loop_rounds 1 ?_
  rw [rounds_succ]
  go_wp2_with fail
  refine (HE.out W1).mono ?_
  rintro e w2 ⟨rfl, hb2⟩
  have z0 : Blk w2 w.heap.size 26 #[.slice none 0 0, .slice none 0 0, .slice none 0 0] := HJ.out.1.below hb2 HJ.out.1.lt
  have z1 : Blk w2 (w.heap.size + 1) 93 #[.string ⟨#[]⟩, .bool true] := HJ.out.2.1.below hb2 HJ.out.2.1.lt
  have e1 : w2.cell? ⟨w.heap.size + 1, 1, none⟩ = some (.bool true) := z1.cell 1
  have y0 : w2.cell? ⟨w.heap.size, 0, none⟩ = some (.slice none 0 0) := z0.cell 0
  have y1 : w2.cell? ⟨w.heap.size, 1, none⟩ = some (.slice none 0 0) := z0.cell 1
  have y2 : w2.cell? ⟨w.heap.size, 2, none⟩ = some (.slice none 0 0) := z0.cell 2
  have x0 := z0.frozen 0
  have x1 := z0.frozen 1
  have x2 := z0.frozen 2
  have HZ := Lib.hid (And.intro z0 (bl_tr HJ.out.2.2 hb2))
  clear z0 z1 hb2 hd
  go_wp2
  rw [Exit.noGoto_ret]
  exact post_node rfl (((HZ.out.1.set_ 0 _).set_ 1 _).set_ 2 _) rfl rfl rfl ⟨rfl, bl_st (bl_st (bl_st HZ.out.2 (by simp) _) (by simp) _) (by simp) _⟩

theorem node_Decode.calls (a0 : Int) (a1 : ByteArray) (r1 : List S39) (r2 : List ByteArray) (r3 : List Int) (r4 : Int) (w : World) (h : node_Decode.f a0 a1 = some (r1, r2, r3, r4)) :
    Calls Try.prog 31 #[.int .i64 a0, .string a1] w fun e w' => ∃ v0_ v1_ v2_ : Value, e = .returned (.tuple #[.agg #[v0_, v1_, v2_], .int .i64 r4]) ∧ Kd.R k39 39 w' w.heap.size (fun _ => True) v0_ r1 ∧ Kd.R Kd.string 9 w' w.heap.size (fun _ => True) v1_ r2 ∧ Kd.R (Kd.int .u32) 65 w' w.heap.size (fun _ => True) v2_ r3 ∧ Below w.heap.size w w' := by
  unfold node_Decode.f at h
  split at h
  · rename_i hc
    simp only [Option.some.injEq, Prod.mk.injEq] at h
    obtain ⟨rfl, rfl, rfl, rfl⟩ := h
    obtain ⟨rfl, hs⟩ := hc
    obtain rfl : a1 = ⟨#[]⟩ := ba_ext (List.eq_nil_of_length_eq_zero (by rw [ba_length]; exact hs))
    refine (decode_none w).mono ?_
    rintro e w' ⟨rfl, hb⟩
    exact ⟨_, _, _, rfl, Kd.R_nil _ _ _ _ _, Kd.R_nil _ _ _ _ _, Kd.R_nil _ _ _ _ _, hb⟩
  · cases h
end Go.Proofs.Ytejempihaknplaa.G
