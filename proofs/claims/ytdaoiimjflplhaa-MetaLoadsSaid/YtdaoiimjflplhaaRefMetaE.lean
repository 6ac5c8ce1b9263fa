/- NOT BUILDING YET: Encode of package bazaarref04 (a drawn region with makeSlice and convert among calls). -/
import Derived.Test.YtdaoiimjflplhaaRefMeta
import Derived.Test.YtdaoiimjflplhaaRound
namespace Go.Proofs.Ytdaoiimjflplhaa
open Go.RowKit Go.Shelf
set_option linter.unusedVariables false

theorem made_u8b (m : Nat) (h : m ≤ 140737488355328) : ∃ C : Array Value, (∀ W : World, (Instr.makeSlice 59 (.int .i64 m) (.int .i64 m)).run Try.prog W = .ok (.slice (some ⟨W.heap.size, 0, none⟩) m m) (W.alloc (.cells C 5))) ∧
    (∀ W : World, (convert 59 9 (.slice (some ⟨W.heap.size, 0, none⟩) m m)).run Try.prog (W.alloc (.cells C 5)) = .ok (.string (mk (List.replicate m 0))) (W.alloc (.cells C 5))) ∧
    (∀ (W : World) (g : Nat), Blk W g 5 C → (convert 59 9 (.slice (some ⟨g, 0, none⟩) m m)).run Try.prog W = .ok (.string (mk (List.replicate m 0))) W) := by
  obtain ⟨i0, hi, hz0, hz1, hz2⟩ := info_parts info_u8
  have key : ∀ (W : World) (g : Nat), Blk W g 5 (madeCells (Value.int .u8 0).cells (m * i0.size)) → (convert 59 9 (.slice (some ⟨g, 0, none⟩) m m)).run Try.prog W = .ok (.string (mk (List.replicate m 0))) W := fun W g hB => by
    refine conv_back (P := Try.prog) _ _ _ 5 _ _ _ _ Try.underlying59 Try.underlying5 Try.underlying9 (by rw [List.length_replicate]) fun j hj => ?_
    rw [List.length_replicate] at hj
    rw [hB.cell j, hz1, List.getElem_replicate]
    simp only [madeCells, Nat.mul_one, Array.getElem?_map, Array.getElem?_range, hj, if_true, Option.map_some]
    simp [Value.cells, Nat.mod_one]
  exact ⟨_, run_make_n Try.underlying59 hi hz0 m (by rw [hz2]; omega) (by omega), fun W => key _ _ (Blk.new W _ _), key⟩
theorem mbox_next {W w5 : World} {B : Nat} {v0 v1 v2 v3 : Value} (hb : Below W.heap.size W w5) (h : W.cell? ⟨B, 0, none⟩ = some v0 ∧ W.cell? ⟨B, 1, none⟩ = some v1 ∧ W.cell? ⟨B, 2, none⟩ = some v2 ∧ W.cell? ⟨B, 3, none⟩ = some v3) (hlt : B < W.heap.size) :
    (w5.cell? ⟨B, 0, none⟩ = some v0 ∧ w5.cell? ⟨B, 1, none⟩ = some v1 ∧ w5.cell? ⟨B, 2, none⟩ = some v2 ∧ w5.cell? ⟨B, 3, none⟩ = some v3) ∧ B < w5.heap.size :=
  ⟨⟨(hb.cell (p := ⟨B, 0, none⟩) hlt).trans h.1, (hb.cell (p := ⟨B, 1, none⟩) hlt).trans h.2.1, (hb.cell (p := ⟨B, 2, none⟩) hlt).trans h.2.2.1, (hb.cell (p := ⟨B, 3, none⟩) hlt).trans h.2.2.2⟩, Nat.lt_of_lt_of_le hlt hb.size⟩

theorem mbox_al {W : World} {B : Nat} {o : Obj} {v0 v1 v2 v3 : Value} (h : W.cell? ⟨B, 0, none⟩ = some v0 ∧ W.cell? ⟨B, 1, none⟩ = some v1 ∧ W.cell? ⟨B, 2, none⟩ = some v2 ∧ W.cell? ⟨B, 3, none⟩ = some v3) (hlt : B < W.heap.size) :
    (W.alloc o).cell? ⟨B, 0, none⟩ = some v0 ∧ (W.alloc o).cell? ⟨B, 1, none⟩ = some v1 ∧ (W.alloc o).cell? ⟨B, 2, none⟩ = some v2 ∧ (W.alloc o).cell? ⟨B, 3, none⟩ = some v3 :=
  have hb := bl_al (bl_re W) o
  ⟨(hb.cell (p := ⟨B, 0, none⟩) hlt).trans h.1, (hb.cell (p := ⟨B, 1, none⟩) hlt).trans h.2.1, (hb.cell (p := ⟨B, 2, none⟩) hlt).trans h.2.2.1, (hb.cell (p := ⟨B, 3, none⟩) hlt).trans h.2.2.2⟩
theorem mblk_new {W w' : World} {C : Array Value} {t : TypeId} (hb : Below (W.alloc (.cells C t)).heap.size (W.alloc (.cells C t)) w') : Blk w' W.heap.size t C :=
  (Blk.new W t C).below hb (by rw [World.size_alloc]; omega)
theorem mblk_next {W w' : World} {C : Array Value} {t : TypeId} {g : Nat} (hb : Below W.heap.size W w') (h : Blk W g t C) : Blk w' g t C := h.below hb h.lt
theorem mlt_al {W : World} {B : Nat} {o : Obj} (h : B < W.heap.size) : B < (W.alloc o).heap.size := by rw [World.size_alloc]; omega

set_option maxRecDepth 100000 in
set_option maxHeartbeats 4000000 in
theorem rmencode_yes (t r h f : Nat) (w : World) (ht : t < 18446744073709551616) (hr : r < 4294967296) (hh : h < 4294967296) (hf : f < 4294967296) (hR : mRightB t r h f = true) :
    Calls Try.prog 12 #[metaV t r h f] w fun e w' => e = .returned (.tuple #[.string (mk (mEnc t r h f)), .int .i64 0]) ∧ Below w.heap.size w w' := by
  have H := Lib.hid (fun w => rmright_any t r h f w)
  rw [hR] at H
  unfold metaV at H ⊢
  clear hR
  have hB := Blk.new w 25 #[.int .u64 (t : Int), .int .u32 (r : Int), .int .u32 (h : Int), .int .u32 (f : Int)]
  have HB := Lib.hid hB
  clear hB
  have e1 : IntKind.u64.wrap (r : Int) = r := IntWalk.u64_in _ (by omega)
  have e2 : IntKind.u64.wrap (h : Int) = h := IntWalk.u64_in _ (by omega)
  have e3 : IntKind.u64.wrap (f : Int) = f := IntWalk.u64_in _ (by omega)
  have h0 := fun W => rput_any t 8 W (by omega) (by omega) (by omega)
  have h1 := fun W => rput_any r 4 W (by omega) (by omega) (by omega)
  have h2 := fun W => rput_any h 4 W (by omega) (by omega) (by omega)
  have h3 := fun W => rput_any f 4 W (by omega) (by omega) (by omega)
  obtain ⟨a0, ha0⟩ : ∃ a, mk (be 8 t) = a := ⟨_, rfl⟩
  obtain ⟨a1, ha1⟩ : ∃ a, mk (be 4 r) = a := ⟨_, rfl⟩
  obtain ⟨a2, ha2⟩ : ∃ a, mk (be 4 h) = a := ⟨_, rfl⟩
  obtain ⟨a3, ha3⟩ : ∃ a, mk (be 4 f) = a := ⟨_, rfl⟩
  rw [ha0, show ((8 : Nat) : Int) = 8 from rfl] at h0
  rw [ha1, show ((4 : Nat) : Int) = 4 from rfl] at h1
  rw [ha2, show ((4 : Nat) : Int) = 4 from rfl] at h2
  rw [ha3, show ((4 : Nat) : Int) = 4 from rfl] at h3
  have s0 : a0.size = 8 := by rw [← ha0, mk_size, be_length]
  have s1 : a1.size = 4 := by rw [← ha1, mk_size, be_length]
  have s2 : a2.size = 4 := by rw [← ha2, mk_size, be_length]
  have s3 : a3.size = 4 := by rw [← ha3, mk_size, be_length]
  obtain ⟨z, hz⟩ : ∃ z, mk (List.replicate 36 0) = z := ⟨_, rfl⟩
  have sz : z.size = 36 := by rw [← hz, mk_size, List.length_replicate]
  have t1 : (a0 ++ a1).size = 12 := by rw [ByteArray.size_append]; omega
  have t2 : (a0 ++ a1 ++ a2).size = 16 := by rw [ByteArray.size_append]; omega
  have t3 : (a0 ++ a1 ++ a2 ++ a3).size = 20 := by rw [ByteArray.size_append]; omega
  have t4 : (a0 ++ a1 ++ a2 ++ a3 ++ z).size = 56 := by rw [ByteArray.size_append]; omega
  have k1 : ∀ W, (Op.stringOp .add a0 a1).run Try.prog W = .ok (.string (a0 ++ a1)) W := fun W => run_string_add_sum W _ _ (by omega)
  have k2 : ∀ W, (Op.stringOp .add (a0 ++ a1) a2).run Try.prog W = .ok (.string (a0 ++ a1 ++ a2)) W := fun W => run_string_add_sum W _ _ (by omega)
  have k3 : ∀ W, (Op.stringOp .add (a0 ++ a1 ++ a2) a3).run Try.prog W = .ok (.string (a0 ++ a1 ++ a2 ++ a3)) W := fun W => run_string_add_sum W _ _ (by omega)
  have k4 : ∀ W, (Op.stringOp .add (a0 ++ a1 ++ a2 ++ a3) z).run Try.prog W = .ok (.string (a0 ++ a1 ++ a2 ++ a3 ++ z)) W := fun W => run_string_add_sum W _ _ (by omega)
  have k5 : ∀ W, (Op.stringOp .add (a0 ++ a1 ++ a2 ++ a3 ++ z) a0).run Try.prog W = .ok (.string (a0 ++ a1 ++ a2 ++ a3 ++ z ++ a0)) W := fun W => run_string_add_sum W _ _ (by omega)
  have hfin : a0 ++ a1 ++ a2 ++ a3 ++ z ++ a0 = mk (mEnc t r h f) := ba_ext (by
    rw [ba_append, ba_append, ba_append, ba_append, ba_append, ← ha0, ← ha1, ← ha2, ← ha3, ← hz, mk_toList, mk_toList, mk_toList, mk_toList, mk_toList, mk_toList]
    simp [mEnc])
  obtain ⟨C, hC1, hC2, hC3⟩ := made_u8b 36 (by omega)
  rw [show ((36 : Nat) : Int) = 36 from rfl] at hC1
  rw [hz] at hC2 hC3
  have H0 := Lib.hid h0
  have H1 := Lib.hid h1
  have H2 := Lib.hid h2
  have H3 := Lib.hid h3
  have HFI := Lib.hid hfin
  have HC3 := Lib.hid hC3
  clear hC3 h0 h1 h2 h3 hfin ha0 ha1 ha2 ha3 hz s0 s1 s2 s3 sz t1 t2 t3 t4 ht hr hh hf
  go_enter Try.func12, Try.ntmps12
  go_wp2_with fail
  refine (H.out _).mono ?_
  rintro e w1 ⟨rfl, hb1⟩
  have b1 := HB.out.below hb1 (by simp)
  have c0 : w1.cell? ⟨w.heap.size, 0, none⟩ = some (.int .u64 (t : Int)) := b1.cell 0
  have hlt := b1.lt
  have G1 := Lib.hid (And.intro b1 ((bl_al (bl_re w) _).trans (hb1.mono (by simp))))
  clear b1 hb1
  go_wp2_with fail
  refine (H0.out _).mono ?_
  rintro e w2 ⟨rfl, hb2⟩
  have b2 := G1.out.1.below hb2 hlt
  have m2 : w2.cell? ⟨w.heap.size, 0, none⟩ = some (.int .u64 (t : Int)) ∧ w2.cell? ⟨w.heap.size, 1, none⟩ = some (.int .u32 (r : Int)) ∧ w2.cell? ⟨w.heap.size, 2, none⟩ = some (.int .u32 (h : Int)) ∧ w2.cell? ⟨w.heap.size, 3, none⟩ = some (.int .u32 (f : Int)) := ⟨b2.cell 0, b2.cell 1, b2.cell 2, b2.cell 3⟩
  have l2 := b2.lt
  have G2 := Lib.hid (bl_tr G1.out.2 hb2)
  clear b2 hb2 c0
  go_wp2_with fail
  -- THE REGION
  have hm : Try.prog.follows .mixedOrders = true := by kernel_rfl
  obtain ⟨SP, hSP⟩ : ∃ SP : World → Prop, SP = fun w' : World => w'.cell? ⟨w.heap.size, 0, none⟩ = some (.int .u64 (t : Int)) ∧ w'.cell? ⟨w.heap.size, 1, none⟩ = some (.int .u32 (r : Int)) ∧ w'.cell? ⟨w.heap.size, 2, none⟩ = some (.int .u32 (h : Int)) ∧ w'.cell? ⟨w.heap.size, 3, none⟩ = some (.int .u32 (f : Int)) := ⟨_, rfl⟩
  have s0 : SP w2.drew := by rw [hSP]; exact m2
  have l0 : w.heap.size < w2.drew.heap.size := l2
  have t0 := bl_dr G2.out
  refine wp_region_noPanic (wp_region_held (S := SP) hm ?_)
  refine wpAnyH_take (i := 0) (v := .string a0) rfl (by kernel_rfl) (by kernel_rfl) (by kernel_rfl) (fun _ _ _ h => h) (Or.inl ⟨by rfl, fun w' hS => ?_⟩) s0 ?_
  · rw [hSP] at hS
    obtain ⟨s1, s2, s3, s4⟩ := hS
    go_simp
  refine wpAnyH_take (i := 1) (v := .pointer (some ⟨w.heap.size, 1, none⟩)) rfl (by kernel_rfl) (by kernel_rfl) (by kernel_rfl) (fun _ _ _ h => h) (Or.inl ⟨by rfl, fun w' hS => ?_⟩) s0 ?_
  · rw [hSP] at hS
    obtain ⟨s1, s2, s3, s4⟩ := hS
    go_simp
  refine wpAnyH_take (i := 2) (v := .int .u32 (r : Int)) rfl (by kernel_rfl) (by kernel_rfl) (by kernel_rfl) (fun _ _ _ h => h) (Or.inl ⟨by rfl, fun w' hS => ?_⟩) s0 ?_
  · rw [hSP] at hS
    obtain ⟨s1, s2, s3, s4⟩ := hS
    go_simp
  refine wpAnyH_take (i := 3) (v := .int .u64 (r : Int)) rfl (by kernel_rfl) (by kernel_rfl) (by kernel_rfl) (fun _ _ _ h => h) (Or.inl ⟨by rfl, fun w' hS => ?_⟩) s0 ?_
  · rw [hSP] at hS
    obtain ⟨s1, s2, s3, s4⟩ := hS
    go_simp
  refine wpAnyH_take (i := 6) (v := .pointer (some ⟨w.heap.size, 2, none⟩)) rfl (by kernel_rfl) (by kernel_rfl) (by kernel_rfl) (fun _ _ _ h => h) (Or.inl ⟨by rfl, fun w' hS => ?_⟩) s0 ?_
  · rw [hSP] at hS
    obtain ⟨s1, s2, s3, s4⟩ := hS
    go_simp
  refine wpAnyH_take (i := 7) (v := .int .u32 (h : Int)) rfl (by kernel_rfl) (by kernel_rfl) (by kernel_rfl) (fun _ _ _ h => h) (Or.inl ⟨by rfl, fun w' hS => ?_⟩) s0 ?_
  · rw [hSP] at hS
    obtain ⟨s1, s2, s3, s4⟩ := hS
    go_simp
  refine wpAnyH_take (i := 8) (v := .int .u64 (h : Int)) rfl (by kernel_rfl) (by kernel_rfl) (by kernel_rfl) (fun _ _ _ h => h) (Or.inl ⟨by rfl, fun w' hS => ?_⟩) s0 ?_
  · rw [hSP] at hS
    obtain ⟨s1, s2, s3, s4⟩ := hS
    go_simp
  refine wpAnyH_take (i := 11) (v := .pointer (some ⟨w.heap.size, 3, none⟩)) rfl (by kernel_rfl) (by kernel_rfl) (by kernel_rfl) (fun _ _ _ h => h) (Or.inl ⟨by rfl, fun w' hS => ?_⟩) s0 ?_
  · rw [hSP] at hS
    obtain ⟨s1, s2, s3, s4⟩ := hS
    go_simp
  refine wpAnyH_take (i := 12) (v := .int .u32 (f : Int)) rfl (by kernel_rfl) (by kernel_rfl) (by kernel_rfl) (fun _ _ _ h => h) (Or.inl ⟨by rfl, fun w' hS => ?_⟩) s0 ?_
  · rw [hSP] at hS
    obtain ⟨s1, s2, s3, s4⟩ := hS
    go_simp
  refine wpAnyH_take (i := 13) (v := .int .u64 (f : Int)) rfl (by kernel_rfl) (by kernel_rfl) (by kernel_rfl) (fun _ _ _ h => h) (Or.inl ⟨by rfl, fun w' hS => ?_⟩) s0 ?_
  · rw [hSP] at hS
    obtain ⟨s1, s2, s3, s4⟩ := hS
    go_simp
  refine wpAnyH_take (i := 19) (v := .string a0) rfl (by kernel_rfl) (by kernel_rfl) (by kernel_rfl) (fun _ _ _ h => h) (Or.inl ⟨by rfl, fun w' hS => ?_⟩) s0 ?_
  · rw [hSP] at hS
    obtain ⟨s1, s2, s3, s4⟩ := hS
    go_simp
  refine wpAnyH_all (rs := [4, 16]) (by kernel_rfl) (by simp) ?_
  intro i' hi'
  obtain rfl | rfl : i' = 4 ∨ i' = 16 := by simpa using hi'
  · skip
    refine wpOp_enter (f := 31) (args := #[.int .u64 (r : Int), .int .i64 4]) rfl rfl (by go_simp) ?_
    refine (H1.out w2.drew).mono ?_
    rintro e v1 ⟨rfl, hb1⟩
    have l1 : w.heap.size < v1.heap.size := Nat.lt_of_lt_of_le l0 hb1.size
    have s1 : SP v1 := by rw [hSP]; rw [hSP] at s0; exact (mbox_next hb1 s0 l0).1
    have t1 := bl_tr t0 hb1
    refine ⟨_, rfl, s1, ?_⟩
    refine wpAnyH_take (i := 5) (v := .string (a0 ++ a1)) rfl (by kernel_rfl) (by kernel_rfl) (by kernel_rfl) (fun _ _ _ h => h) (Or.inl ⟨by rfl, fun w' hS => ?_⟩) s1 ?_
    · rw [hSP] at hS
      obtain ⟨s1, s2, s3, s4⟩ := hS
      go_simp
    refine wpAnyH_all (rs := [9, 16]) (by kernel_rfl) (by simp) ?_
    intro i' hi'
    obtain rfl | rfl : i' = 9 ∨ i' = 16 := by simpa using hi'
    · skip
      refine wpOp_enter (f := 31) (args := #[.int .u64 (h : Int), .int .i64 4]) rfl rfl (by go_simp) ?_
      refine (H2.out v1).mono ?_
      rintro e v2 ⟨rfl, hb2⟩
      have l2 : w.heap.size < v2.heap.size := Nat.lt_of_lt_of_le l1 hb2.size
      have s2 : SP v2 := by rw [hSP]; rw [hSP] at s1; exact (mbox_next hb2 s1 l1).1
      have t2 := bl_tr t1 hb2
      refine ⟨_, rfl, s2, ?_⟩
      refine wpAnyH_take (i := 10) (v := .string (a0 ++ a1 ++ a2)) rfl (by kernel_rfl) (by kernel_rfl) (by kernel_rfl) (fun _ _ _ h => h) (Or.inl ⟨by rfl, fun w' hS => ?_⟩) s2 ?_
      · rw [hSP] at hS
        obtain ⟨s1, s2, s3, s4⟩ := hS
        go_simp
      refine wpAnyH_all (rs := [14, 16]) (by kernel_rfl) (by simp) ?_
      intro i' hi'
      obtain rfl | rfl : i' = 14 ∨ i' = 16 := by simpa using hi'
      · skip
        refine wpOp_enter (f := 31) (args := #[.int .u64 (f : Int), .int .i64 4]) rfl rfl (by go_simp) ?_
        refine (H3.out v2).mono ?_
        rintro e v3 ⟨rfl, hb3⟩
        have l3 : w.heap.size < v3.heap.size := Nat.lt_of_lt_of_le l2 hb3.size
        have s3 : SP v3 := by rw [hSP]; rw [hSP] at s2; exact (mbox_next hb3 s2 l2).1
        have t3 := bl_tr t2 hb3
        refine ⟨_, rfl, s3, ?_⟩
        refine wpAnyH_take (i := 15) (v := .string (a0 ++ a1 ++ a2 ++ a3)) rfl (by kernel_rfl) (by kernel_rfl) (by kernel_rfl) (fun _ _ _ h => h) (Or.inl ⟨by rfl, fun w' hS => ?_⟩) s3 ?_
        · rw [hSP] at hS
          obtain ⟨s1, s2, s3, s4⟩ := hS
          go_simp
        refine wpAnyH_all (rs := [16]) (by kernel_rfl) (by simp) ?_
        intro i' hi'
        obtain rfl : i' = 16 := by simpa using hi'
        refine wpOp_value (nx := .value (.slice (some ⟨v3.heap.size, 0, none⟩) 36 36)) (v := .slice (some ⟨v3.heap.size, 0, none⟩) 36 36) (w' := v3.alloc (.cells C 5)) rfl rfl (.inl rfl) (by go_simp) ⟨?_, ?_⟩
        · rw [hSP]; rw [hSP] at s3; exact mbox_al s3 l3
        have s4 : SP (v3.alloc (.cells C 5)) := by rw [hSP]; rw [hSP] at s3; exact mbox_al s3 l3
        have l4 : w.heap.size < (v3.alloc (.cells C 5)).heap.size := mlt_al l3
        have t4 := bl_al t3 (.cells C 5)
        have k4 : Blk (v3.alloc (.cells C 5)) v3.heap.size 5 C := Blk.new v3 _ _
        refine wpAnyH_all (rs := [17]) (by kernel_rfl) (by simp) ?_
        intro i' hi'
        obtain rfl : i' = 17 := by simpa using hi'
        have x5 := HC3.out _ _ k4
        refine wpOp_value (nx := .value (.string z)) (v := .string z) (w' := (v3.alloc (.cells C 5))) rfl rfl (.inl rfl) (by go_simp) ⟨s4, ?_⟩
        refine wpAnyH_take (i := 18) (v := .string (a0 ++ a1 ++ a2 ++ a3 ++ z)) rfl (by kernel_rfl) (by kernel_rfl) (by kernel_rfl) (fun _ _ _ h => h) (Or.inl ⟨by rfl, fun w' hS => ?_⟩) s4 ?_
        · rw [hSP] at hS
          obtain ⟨s1, s2, s3, s4⟩ := hS
          go_simp
        refine wpAnyH_take (i := 20) (v := .string (a0 ++ a1 ++ a2 ++ a3 ++ z ++ a0)) rfl (by kernel_rfl) (by kernel_rfl) (by kernel_rfl) (fun _ _ _ h => h) (Or.inl ⟨by rfl, fun w' hS => ?_⟩) s4 ?_
        · rw [hSP] at hS
          obtain ⟨s1, s2, s3, s4⟩ := hS
          go_simp
        refine wpAnyH_take (i := 21) (v := .string (a0 ++ a1 ++ a2 ++ a3 ++ z ++ a0)) rfl (by kernel_rfl) (by kernel_rfl) (by kernel_rfl) (fun _ _ _ h => h) (Or.inl ⟨by rfl, fun w' hS => ?_⟩) s4 ?_
        · rw [hSP] at hS
          obtain ⟨s1, s2, s3, s4⟩ := hS
          go_simp
        refine wpAnyH_take (i := 22) (v := .int .i64 0) rfl (by kernel_rfl) (by kernel_rfl) (by kernel_rfl) (fun _ _ _ h => h) (Or.inl ⟨by rfl, fun w' hS => ?_⟩) s4 ?_
        · rw [hSP] at hS
          obtain ⟨s1, s2, s3, s4⟩ := hS
          go_simp
        refine wpAnyH_done (by kernel_rfl) (NoPanic.normal ?_) _
        go_simp
        go_wp2_with fail
        go_ret2
        exact ⟨by rw [← HFI.out]; rfl, t4⟩
      · skip
        refine wpOp_value (nx := .value (.slice (some ⟨v2.heap.size, 0, none⟩) 36 36)) (v := .slice (some ⟨v2.heap.size, 0, none⟩) 36 36) (w' := v2.alloc (.cells C 5)) rfl rfl (.inl rfl) (by go_simp) ⟨?_, ?_⟩
        · rw [hSP]; rw [hSP] at s2; exact mbox_al s2 l2
        have s6 : SP (v2.alloc (.cells C 5)) := by rw [hSP]; rw [hSP] at s2; exact mbox_al s2 l2
        have l6 : w.heap.size < (v2.alloc (.cells C 5)).heap.size := mlt_al l2
        have t6 := bl_al t2 (.cells C 5)
        have k6 : Blk (v2.alloc (.cells C 5)) v2.heap.size 5 C := Blk.new v2 _ _
        refine wpAnyH_all (rs := [14, 17]) (by kernel_rfl) (by simp) ?_
        intro i' hi'
        obtain rfl | rfl : i' = 14 ∨ i' = 17 := by simpa using hi'
        · skip
          refine wpOp_enter (f := 31) (args := #[.int .u64 (f : Int), .int .i64 4]) rfl rfl (by go_simp) ?_
          refine (H3.out (v2.alloc (.cells C 5))).mono ?_
          rintro e v7 ⟨rfl, hb7⟩
          have l7 : w.heap.size < v7.heap.size := Nat.lt_of_lt_of_le l6 hb7.size
          have s7 : SP v7 := by rw [hSP]; rw [hSP] at s6; exact (mbox_next hb7 s6 l6).1
          have t7 := bl_tr t6 hb7
          have k7 := mblk_next hb7 k6
          refine ⟨_, rfl, s7, ?_⟩
          refine wpAnyH_take (i := 15) (v := .string (a0 ++ a1 ++ a2 ++ a3)) rfl (by kernel_rfl) (by kernel_rfl) (by kernel_rfl) (fun _ _ _ h => h) (Or.inl ⟨by rfl, fun w' hS => ?_⟩) s7 ?_
          · rw [hSP] at hS
            obtain ⟨s1, s2, s3, s4⟩ := hS
            go_simp
          refine wpAnyH_all (rs := [17]) (by kernel_rfl) (by simp) ?_
          intro i' hi'
          obtain rfl : i' = 17 := by simpa using hi'
          have x8 := HC3.out _ _ k7
          refine wpOp_value (nx := .value (.string z)) (v := .string z) (w' := v7) rfl rfl (.inl rfl) (by go_simp) ⟨s7, ?_⟩
          refine wpAnyH_take (i := 18) (v := .string (a0 ++ a1 ++ a2 ++ a3 ++ z)) rfl (by kernel_rfl) (by kernel_rfl) (by kernel_rfl) (fun _ _ _ h => h) (Or.inl ⟨by rfl, fun w' hS => ?_⟩) s7 ?_
          · rw [hSP] at hS
            obtain ⟨s1, s2, s3, s4⟩ := hS
            go_simp
          refine wpAnyH_take (i := 20) (v := .string (a0 ++ a1 ++ a2 ++ a3 ++ z ++ a0)) rfl (by kernel_rfl) (by kernel_rfl) (by kernel_rfl) (fun _ _ _ h => h) (Or.inl ⟨by rfl, fun w' hS => ?_⟩) s7 ?_
          · rw [hSP] at hS
            obtain ⟨s1, s2, s3, s4⟩ := hS
            go_simp
          refine wpAnyH_take (i := 21) (v := .string (a0 ++ a1 ++ a2 ++ a3 ++ z ++ a0)) rfl (by kernel_rfl) (by kernel_rfl) (by kernel_rfl) (fun _ _ _ h => h) (Or.inl ⟨by rfl, fun w' hS => ?_⟩) s7 ?_
          · rw [hSP] at hS
            obtain ⟨s1, s2, s3, s4⟩ := hS
            go_simp
          refine wpAnyH_take (i := 22) (v := .int .i64 0) rfl (by kernel_rfl) (by kernel_rfl) (by kernel_rfl) (fun _ _ _ h => h) (Or.inl ⟨by rfl, fun w' hS => ?_⟩) s7 ?_
          · rw [hSP] at hS
            obtain ⟨s1, s2, s3, s4⟩ := hS
            go_simp
          refine wpAnyH_done (by kernel_rfl) (NoPanic.normal ?_) _
          go_simp
          go_wp2_with fail
          go_ret2
          exact ⟨by rw [← HFI.out]; rfl, t7⟩
        · skip
          have x9 := HC3.out _ _ k6
          refine wpOp_value (nx := .value (.string z)) (v := .string z) (w' := (v2.alloc (.cells C 5))) rfl rfl (.inl rfl) (by go_simp) ⟨s6, ?_⟩
          refine wpAnyH_all (rs := [14]) (by kernel_rfl) (by simp) ?_
          intro i' hi'
          obtain rfl : i' = 14 := by simpa using hi'
          refine wpOp_enter (f := 31) (args := #[.int .u64 (f : Int), .int .i64 4]) rfl rfl (by go_simp) ?_
          refine (H3.out (v2.alloc (.cells C 5))).mono ?_
          rintro e v10 ⟨rfl, hb10⟩
          have l10 : w.heap.size < v10.heap.size := Nat.lt_of_lt_of_le l6 hb10.size
          have s10 : SP v10 := by rw [hSP]; rw [hSP] at s6; exact (mbox_next hb10 s6 l6).1
          have t10 := bl_tr t6 hb10
          refine ⟨_, rfl, s10, ?_⟩
          refine wpAnyH_take (i := 15) (v := .string (a0 ++ a1 ++ a2 ++ a3)) rfl (by kernel_rfl) (by kernel_rfl) (by kernel_rfl) (fun _ _ _ h => h) (Or.inl ⟨by rfl, fun w' hS => ?_⟩) s10 ?_
          · rw [hSP] at hS
            obtain ⟨s1, s2, s3, s4⟩ := hS
            go_simp
          refine wpAnyH_take (i := 18) (v := .string (a0 ++ a1 ++ a2 ++ a3 ++ z)) rfl (by kernel_rfl) (by kernel_rfl) (by kernel_rfl) (fun _ _ _ h => h) (Or.inl ⟨by rfl, fun w' hS => ?_⟩) s10 ?_
          · rw [hSP] at hS
            obtain ⟨s1, s2, s3, s4⟩ := hS
            go_simp
          refine wpAnyH_take (i := 20) (v := .string (a0 ++ a1 ++ a2 ++ a3 ++ z ++ a0)) rfl (by kernel_rfl) (by kernel_rfl) (by kernel_rfl) (fun _ _ _ h => h) (Or.inl ⟨by rfl, fun w' hS => ?_⟩) s10 ?_
          · rw [hSP] at hS
            obtain ⟨s1, s2, s3, s4⟩ := hS
            go_simp
          refine wpAnyH_take (i := 21) (v := .string (a0 ++ a1 ++ a2 ++ a3 ++ z ++ a0)) rfl (by kernel_rfl) (by kernel_rfl) (by kernel_rfl) (fun _ _ _ h => h) (Or.inl ⟨by rfl, fun w' hS => ?_⟩) s10 ?_
          · rw [hSP] at hS
            obtain ⟨s1, s2, s3, s4⟩ := hS
            go_simp
          refine wpAnyH_take (i := 22) (v := .int .i64 0) rfl (by kernel_rfl) (by kernel_rfl) (by kernel_rfl) (fun _ _ _ h => h) (Or.inl ⟨by rfl, fun w' hS => ?_⟩) s10 ?_
          · rw [hSP] at hS
            obtain ⟨s1, s2, s3, s4⟩ := hS
            go_simp
          refine wpAnyH_done (by kernel_rfl) (NoPanic.normal ?_) _
          go_simp
          go_wp2_with fail
          go_ret2
          exact ⟨by rw [← HFI.out]; rfl, t10⟩
    · skip
      refine wpOp_value (nx := .value (.slice (some ⟨v1.heap.size, 0, none⟩) 36 36)) (v := .slice (some ⟨v1.heap.size, 0, none⟩) 36 36) (w' := v1.alloc (.cells C 5)) rfl rfl (.inl rfl) (by go_simp) ⟨?_, ?_⟩
      · rw [hSP]; rw [hSP] at s1; exact mbox_al s1 l1
      have s11 : SP (v1.alloc (.cells C 5)) := by rw [hSP]; rw [hSP] at s1; exact mbox_al s1 l1
      have l11 : w.heap.size < (v1.alloc (.cells C 5)).heap.size := mlt_al l1
      have t11 := bl_al t1 (.cells C 5)
      have k11 : Blk (v1.alloc (.cells C 5)) v1.heap.size 5 C := Blk.new v1 _ _
      refine wpAnyH_all (rs := [9, 17]) (by kernel_rfl) (by simp) ?_
      intro i' hi'
      obtain rfl | rfl : i' = 9 ∨ i' = 17 := by simpa using hi'
      · skip
        refine wpOp_enter (f := 31) (args := #[.int .u64 (h : Int), .int .i64 4]) rfl rfl (by go_simp) ?_
        refine (H2.out (v1.alloc (.cells C 5))).mono ?_
        rintro e v12 ⟨rfl, hb12⟩
        have l12 : w.heap.size < v12.heap.size := Nat.lt_of_lt_of_le l11 hb12.size
        have s12 : SP v12 := by rw [hSP]; rw [hSP] at s11; exact (mbox_next hb12 s11 l11).1
        have t12 := bl_tr t11 hb12
        have k12 := mblk_next hb12 k11
        refine ⟨_, rfl, s12, ?_⟩
        refine wpAnyH_take (i := 10) (v := .string (a0 ++ a1 ++ a2)) rfl (by kernel_rfl) (by kernel_rfl) (by kernel_rfl) (fun _ _ _ h => h) (Or.inl ⟨by rfl, fun w' hS => ?_⟩) s12 ?_
        · rw [hSP] at hS
          obtain ⟨s1, s2, s3, s4⟩ := hS
          go_simp
        refine wpAnyH_all (rs := [14, 17]) (by kernel_rfl) (by simp) ?_
        intro i' hi'
        obtain rfl | rfl : i' = 14 ∨ i' = 17 := by simpa using hi'
        · skip
          refine wpOp_enter (f := 31) (args := #[.int .u64 (f : Int), .int .i64 4]) rfl rfl (by go_simp) ?_
          refine (H3.out v12).mono ?_
          rintro e v13 ⟨rfl, hb13⟩
          have l13 : w.heap.size < v13.heap.size := Nat.lt_of_lt_of_le l12 hb13.size
          have s13 : SP v13 := by rw [hSP]; rw [hSP] at s12; exact (mbox_next hb13 s12 l12).1
          have t13 := bl_tr t12 hb13
          have k13 := mblk_next hb13 k12
          refine ⟨_, rfl, s13, ?_⟩
          refine wpAnyH_take (i := 15) (v := .string (a0 ++ a1 ++ a2 ++ a3)) rfl (by kernel_rfl) (by kernel_rfl) (by kernel_rfl) (fun _ _ _ h => h) (Or.inl ⟨by rfl, fun w' hS => ?_⟩) s13 ?_
          · rw [hSP] at hS
            obtain ⟨s1, s2, s3, s4⟩ := hS
            go_simp
          refine wpAnyH_all (rs := [17]) (by kernel_rfl) (by simp) ?_
          intro i' hi'
          obtain rfl : i' = 17 := by simpa using hi'
          have x14 := HC3.out _ _ k13
          refine wpOp_value (nx := .value (.string z)) (v := .string z) (w' := v13) rfl rfl (.inl rfl) (by go_simp) ⟨s13, ?_⟩
          refine wpAnyH_take (i := 18) (v := .string (a0 ++ a1 ++ a2 ++ a3 ++ z)) rfl (by kernel_rfl) (by kernel_rfl) (by kernel_rfl) (fun _ _ _ h => h) (Or.inl ⟨by rfl, fun w' hS => ?_⟩) s13 ?_
          · rw [hSP] at hS
            obtain ⟨s1, s2, s3, s4⟩ := hS
            go_simp
          refine wpAnyH_take (i := 20) (v := .string (a0 ++ a1 ++ a2 ++ a3 ++ z ++ a0)) rfl (by kernel_rfl) (by kernel_rfl) (by kernel_rfl) (fun _ _ _ h => h) (Or.inl ⟨by rfl, fun w' hS => ?_⟩) s13 ?_
          · rw [hSP] at hS
            obtain ⟨s1, s2, s3, s4⟩ := hS
            go_simp
          refine wpAnyH_take (i := 21) (v := .string (a0 ++ a1 ++ a2 ++ a3 ++ z ++ a0)) rfl (by kernel_rfl) (by kernel_rfl) (by kernel_rfl) (fun _ _ _ h => h) (Or.inl ⟨by rfl, fun w' hS => ?_⟩) s13 ?_
          · rw [hSP] at hS
            obtain ⟨s1, s2, s3, s4⟩ := hS
            go_simp
          refine wpAnyH_take (i := 22) (v := .int .i64 0) rfl (by kernel_rfl) (by kernel_rfl) (by kernel_rfl) (fun _ _ _ h => h) (Or.inl ⟨by rfl, fun w' hS => ?_⟩) s13 ?_
          · rw [hSP] at hS
            obtain ⟨s1, s2, s3, s4⟩ := hS
            go_simp
          refine wpAnyH_done (by kernel_rfl) (NoPanic.normal ?_) _
          go_simp
          go_wp2_with fail
          go_ret2
          exact ⟨by rw [← HFI.out]; rfl, t13⟩
        · skip
          have x15 := HC3.out _ _ k12
          refine wpOp_value (nx := .value (.string z)) (v := .string z) (w' := v12) rfl rfl (.inl rfl) (by go_simp) ⟨s12, ?_⟩
          refine wpAnyH_all (rs := [14]) (by kernel_rfl) (by simp) ?_
          intro i' hi'
          obtain rfl : i' = 14 := by simpa using hi'
          refine wpOp_enter (f := 31) (args := #[.int .u64 (f : Int), .int .i64 4]) rfl rfl (by go_simp) ?_
          refine (H3.out v12).mono ?_
          rintro e v16 ⟨rfl, hb16⟩
          have l16 : w.heap.size < v16.heap.size := Nat.lt_of_lt_of_le l12 hb16.size
          have s16 : SP v16 := by rw [hSP]; rw [hSP] at s12; exact (mbox_next hb16 s12 l12).1
          have t16 := bl_tr t12 hb16
          refine ⟨_, rfl, s16, ?_⟩
          refine wpAnyH_take (i := 15) (v := .string (a0 ++ a1 ++ a2 ++ a3)) rfl (by kernel_rfl) (by kernel_rfl) (by kernel_rfl) (fun _ _ _ h => h) (Or.inl ⟨by rfl, fun w' hS => ?_⟩) s16 ?_
          · rw [hSP] at hS
            obtain ⟨s1, s2, s3, s4⟩ := hS
            go_simp
          refine wpAnyH_take (i := 18) (v := .string (a0 ++ a1 ++ a2 ++ a3 ++ z)) rfl (by kernel_rfl) (by kernel_rfl) (by kernel_rfl) (fun _ _ _ h => h) (Or.inl ⟨by rfl, fun w' hS => ?_⟩) s16 ?_
          · rw [hSP] at hS
            obtain ⟨s1, s2, s3, s4⟩ := hS
            go_simp
          refine wpAnyH_take (i := 20) (v := .string (a0 ++ a1 ++ a2 ++ a3 ++ z ++ a0)) rfl (by kernel_rfl) (by kernel_rfl) (by kernel_rfl) (fun _ _ _ h => h) (Or.inl ⟨by rfl, fun w' hS => ?_⟩) s16 ?_
          · rw [hSP] at hS
            obtain ⟨s1, s2, s3, s4⟩ := hS
            go_simp
          refine wpAnyH_take (i := 21) (v := .string (a0 ++ a1 ++ a2 ++ a3 ++ z ++ a0)) rfl (by kernel_rfl) (by kernel_rfl) (by kernel_rfl) (fun _ _ _ h => h) (Or.inl ⟨by rfl, fun w' hS => ?_⟩) s16 ?_
          · rw [hSP] at hS
            obtain ⟨s1, s2, s3, s4⟩ := hS
            go_simp
          refine wpAnyH_take (i := 22) (v := .int .i64 0) rfl (by kernel_rfl) (by kernel_rfl) (by kernel_rfl) (fun _ _ _ h => h) (Or.inl ⟨by rfl, fun w' hS => ?_⟩) s16 ?_
          · rw [hSP] at hS
            obtain ⟨s1, s2, s3, s4⟩ := hS
            go_simp
          refine wpAnyH_done (by kernel_rfl) (NoPanic.normal ?_) _
          go_simp
          go_wp2_with fail
          go_ret2
          exact ⟨by rw [← HFI.out]; rfl, t16⟩
      · skip
        have x17 := HC3.out _ _ k11
        refine wpOp_value (nx := .value (.string z)) (v := .string z) (w' := (v1.alloc (.cells C 5))) rfl rfl (.inl rfl) (by go_simp) ⟨s11, ?_⟩
        refine wpAnyH_all (rs := [9]) (by kernel_rfl) (by simp) ?_
        intro i' hi'
        obtain rfl : i' = 9 := by simpa using hi'
        refine wpOp_enter (f := 31) (args := #[.int .u64 (h : Int), .int .i64 4]) rfl rfl (by go_simp) ?_
        refine (H2.out (v1.alloc (.cells C 5))).mono ?_
        rintro e v18 ⟨rfl, hb18⟩
        have l18 : w.heap.size < v18.heap.size := Nat.lt_of_lt_of_le l11 hb18.size
        have s18 : SP v18 := by rw [hSP]; rw [hSP] at s11; exact (mbox_next hb18 s11 l11).1
        have t18 := bl_tr t11 hb18
        refine ⟨_, rfl, s18, ?_⟩
        refine wpAnyH_take (i := 10) (v := .string (a0 ++ a1 ++ a2)) rfl (by kernel_rfl) (by kernel_rfl) (by kernel_rfl) (fun _ _ _ h => h) (Or.inl ⟨by rfl, fun w' hS => ?_⟩) s18 ?_
        · rw [hSP] at hS
          obtain ⟨s1, s2, s3, s4⟩ := hS
          go_simp
        refine wpAnyH_all (rs := [14]) (by kernel_rfl) (by simp) ?_
        intro i' hi'
        obtain rfl : i' = 14 := by simpa using hi'
        refine wpOp_enter (f := 31) (args := #[.int .u64 (f : Int), .int .i64 4]) rfl rfl (by go_simp) ?_
        refine (H3.out v18).mono ?_
        rintro e v19 ⟨rfl, hb19⟩
        have l19 : w.heap.size < v19.heap.size := Nat.lt_of_lt_of_le l18 hb19.size
        have s19 : SP v19 := by rw [hSP]; rw [hSP] at s18; exact (mbox_next hb19 s18 l18).1
        have t19 := bl_tr t18 hb19
        refine ⟨_, rfl, s19, ?_⟩
        refine wpAnyH_take (i := 15) (v := .string (a0 ++ a1 ++ a2 ++ a3)) rfl (by kernel_rfl) (by kernel_rfl) (by kernel_rfl) (fun _ _ _ h => h) (Or.inl ⟨by rfl, fun w' hS => ?_⟩) s19 ?_
        · rw [hSP] at hS
          obtain ⟨s1, s2, s3, s4⟩ := hS
          go_simp
        refine wpAnyH_take (i := 18) (v := .string (a0 ++ a1 ++ a2 ++ a3 ++ z)) rfl (by kernel_rfl) (by kernel_rfl) (by kernel_rfl) (fun _ _ _ h => h) (Or.inl ⟨by rfl, fun w' hS => ?_⟩) s19 ?_
        · rw [hSP] at hS
          obtain ⟨s1, s2, s3, s4⟩ := hS
          go_simp
        refine wpAnyH_take (i := 20) (v := .string (a0 ++ a1 ++ a2 ++ a3 ++ z ++ a0)) rfl (by kernel_rfl) (by kernel_rfl) (by kernel_rfl) (fun _ _ _ h => h) (Or.inl ⟨by rfl, fun w' hS => ?_⟩) s19 ?_
        · rw [hSP] at hS
          obtain ⟨s1, s2, s3, s4⟩ := hS
          go_simp
        refine wpAnyH_take (i := 21) (v := .string (a0 ++ a1 ++ a2 ++ a3 ++ z ++ a0)) rfl (by kernel_rfl) (by kernel_rfl) (by kernel_rfl) (fun _ _ _ h => h) (Or.inl ⟨by rfl, fun w' hS => ?_⟩) s19 ?_
        · rw [hSP] at hS
          obtain ⟨s1, s2, s3, s4⟩ := hS
          go_simp
        refine wpAnyH_take (i := 22) (v := .int .i64 0) rfl (by kernel_rfl) (by kernel_rfl) (by kernel_rfl) (fun _ _ _ h => h) (Or.inl ⟨by rfl, fun w' hS => ?_⟩) s19 ?_
        · rw [hSP] at hS
          obtain ⟨s1, s2, s3, s4⟩ := hS
          go_simp
        refine wpAnyH_done (by kernel_rfl) (NoPanic.normal ?_) _
        go_simp
        go_wp2_with fail
        go_ret2
        exact ⟨by rw [← HFI.out]; rfl, t19⟩
  · skip
    refine wpOp_value (nx := .value (.slice (some ⟨w2.heap.size, 0, none⟩) 36 36)) (v := .slice (some ⟨w2.heap.size, 0, none⟩) 36 36) (w' := w2.drew.alloc (.cells C 5)) rfl rfl (.inl rfl) (by go_simp) ⟨?_, ?_⟩
    · rw [hSP]; rw [hSP] at s0; exact mbox_al s0 l0
    have s20 : SP (w2.drew.alloc (.cells C 5)) := by rw [hSP]; rw [hSP] at s0; exact mbox_al s0 l0
    have l20 : w.heap.size < (w2.drew.alloc (.cells C 5)).heap.size := mlt_al l0
    have t20 := bl_al t0 (.cells C 5)
    have k20 : Blk (w2.drew.alloc (.cells C 5)) w2.heap.size 5 C := Blk.new w2.drew _ _
    refine wpAnyH_all (rs := [4, 17]) (by kernel_rfl) (by simp) ?_
    intro i' hi'
    obtain rfl | rfl : i' = 4 ∨ i' = 17 := by simpa using hi'
    · skip
      refine wpOp_enter (f := 31) (args := #[.int .u64 (r : Int), .int .i64 4]) rfl rfl (by go_simp) ?_
      refine (H1.out (w2.drew.alloc (.cells C 5))).mono ?_
      rintro e v21 ⟨rfl, hb21⟩
      have l21 : w.heap.size < v21.heap.size := Nat.lt_of_lt_of_le l20 hb21.size
      have s21 : SP v21 := by rw [hSP]; rw [hSP] at s20; exact (mbox_next hb21 s20 l20).1
      have t21 := bl_tr t20 hb21
      have k21 := mblk_next hb21 k20
      refine ⟨_, rfl, s21, ?_⟩
      refine wpAnyH_take (i := 5) (v := .string (a0 ++ a1)) rfl (by kernel_rfl) (by kernel_rfl) (by kernel_rfl) (fun _ _ _ h => h) (Or.inl ⟨by rfl, fun w' hS => ?_⟩) s21 ?_
      · rw [hSP] at hS
        obtain ⟨s1, s2, s3, s4⟩ := hS
        go_simp
      refine wpAnyH_all (rs := [9, 17]) (by kernel_rfl) (by simp) ?_
      intro i' hi'
      obtain rfl | rfl : i' = 9 ∨ i' = 17 := by simpa using hi'
      · skip
        refine wpOp_enter (f := 31) (args := #[.int .u64 (h : Int), .int .i64 4]) rfl rfl (by go_simp) ?_
        refine (H2.out v21).mono ?_
        rintro e v22 ⟨rfl, hb22⟩
        have l22 : w.heap.size < v22.heap.size := Nat.lt_of_lt_of_le l21 hb22.size
        have s22 : SP v22 := by rw [hSP]; rw [hSP] at s21; exact (mbox_next hb22 s21 l21).1
        have t22 := bl_tr t21 hb22
        have k22 := mblk_next hb22 k21
        refine ⟨_, rfl, s22, ?_⟩
        refine wpAnyH_take (i := 10) (v := .string (a0 ++ a1 ++ a2)) rfl (by kernel_rfl) (by kernel_rfl) (by kernel_rfl) (fun _ _ _ h => h) (Or.inl ⟨by rfl, fun w' hS => ?_⟩) s22 ?_
        · rw [hSP] at hS
          obtain ⟨s1, s2, s3, s4⟩ := hS
          go_simp
        refine wpAnyH_all (rs := [14, 17]) (by kernel_rfl) (by simp) ?_
        intro i' hi'
        obtain rfl | rfl : i' = 14 ∨ i' = 17 := by simpa using hi'
        · skip
          refine wpOp_enter (f := 31) (args := #[.int .u64 (f : Int), .int .i64 4]) rfl rfl (by go_simp) ?_
          refine (H3.out v22).mono ?_
          rintro e v23 ⟨rfl, hb23⟩
          have l23 : w.heap.size < v23.heap.size := Nat.lt_of_lt_of_le l22 hb23.size
          have s23 : SP v23 := by rw [hSP]; rw [hSP] at s22; exact (mbox_next hb23 s22 l22).1
          have t23 := bl_tr t22 hb23
          have k23 := mblk_next hb23 k22
          refine ⟨_, rfl, s23, ?_⟩
          refine wpAnyH_take (i := 15) (v := .string (a0 ++ a1 ++ a2 ++ a3)) rfl (by kernel_rfl) (by kernel_rfl) (by kernel_rfl) (fun _ _ _ h => h) (Or.inl ⟨by rfl, fun w' hS => ?_⟩) s23 ?_
          · rw [hSP] at hS
            obtain ⟨s1, s2, s3, s4⟩ := hS
            go_simp
          refine wpAnyH_all (rs := [17]) (by kernel_rfl) (by simp) ?_
          intro i' hi'
          obtain rfl : i' = 17 := by simpa using hi'
          have x24 := HC3.out _ _ k23
          refine wpOp_value (nx := .value (.string z)) (v := .string z) (w' := v23) rfl rfl (.inl rfl) (by go_simp) ⟨s23, ?_⟩
          refine wpAnyH_take (i := 18) (v := .string (a0 ++ a1 ++ a2 ++ a3 ++ z)) rfl (by kernel_rfl) (by kernel_rfl) (by kernel_rfl) (fun _ _ _ h => h) (Or.inl ⟨by rfl, fun w' hS => ?_⟩) s23 ?_
          · rw [hSP] at hS
            obtain ⟨s1, s2, s3, s4⟩ := hS
            go_simp
          refine wpAnyH_take (i := 20) (v := .string (a0 ++ a1 ++ a2 ++ a3 ++ z ++ a0)) rfl (by kernel_rfl) (by kernel_rfl) (by kernel_rfl) (fun _ _ _ h => h) (Or.inl ⟨by rfl, fun w' hS => ?_⟩) s23 ?_
          · rw [hSP] at hS
            obtain ⟨s1, s2, s3, s4⟩ := hS
            go_simp
          refine wpAnyH_take (i := 21) (v := .string (a0 ++ a1 ++ a2 ++ a3 ++ z ++ a0)) rfl (by kernel_rfl) (by kernel_rfl) (by kernel_rfl) (fun _ _ _ h => h) (Or.inl ⟨by rfl, fun w' hS => ?_⟩) s23 ?_
          · rw [hSP] at hS
            obtain ⟨s1, s2, s3, s4⟩ := hS
            go_simp
          refine wpAnyH_take (i := 22) (v := .int .i64 0) rfl (by kernel_rfl) (by kernel_rfl) (by kernel_rfl) (fun _ _ _ h => h) (Or.inl ⟨by rfl, fun w' hS => ?_⟩) s23 ?_
          · rw [hSP] at hS
            obtain ⟨s1, s2, s3, s4⟩ := hS
            go_simp
          refine wpAnyH_done (by kernel_rfl) (NoPanic.normal ?_) _
          go_simp
          go_wp2_with fail
          go_ret2
          exact ⟨by rw [← HFI.out]; rfl, t23⟩
        · skip
          have x25 := HC3.out _ _ k22
          refine wpOp_value (nx := .value (.string z)) (v := .string z) (w' := v22) rfl rfl (.inl rfl) (by go_simp) ⟨s22, ?_⟩
          refine wpAnyH_all (rs := [14]) (by kernel_rfl) (by simp) ?_
          intro i' hi'
          obtain rfl : i' = 14 := by simpa using hi'
          refine wpOp_enter (f := 31) (args := #[.int .u64 (f : Int), .int .i64 4]) rfl rfl (by go_simp) ?_
          refine (H3.out v22).mono ?_
          rintro e v26 ⟨rfl, hb26⟩
          have l26 : w.heap.size < v26.heap.size := Nat.lt_of_lt_of_le l22 hb26.size
          have s26 : SP v26 := by rw [hSP]; rw [hSP] at s22; exact (mbox_next hb26 s22 l22).1
          have t26 := bl_tr t22 hb26
          refine ⟨_, rfl, s26, ?_⟩
          refine wpAnyH_take (i := 15) (v := .string (a0 ++ a1 ++ a2 ++ a3)) rfl (by kernel_rfl) (by kernel_rfl) (by kernel_rfl) (fun _ _ _ h => h) (Or.inl ⟨by rfl, fun w' hS => ?_⟩) s26 ?_
          · rw [hSP] at hS
            obtain ⟨s1, s2, s3, s4⟩ := hS
            go_simp
          refine wpAnyH_take (i := 18) (v := .string (a0 ++ a1 ++ a2 ++ a3 ++ z)) rfl (by kernel_rfl) (by kernel_rfl) (by kernel_rfl) (fun _ _ _ h => h) (Or.inl ⟨by rfl, fun w' hS => ?_⟩) s26 ?_
          · rw [hSP] at hS
            obtain ⟨s1, s2, s3, s4⟩ := hS
            go_simp
          refine wpAnyH_take (i := 20) (v := .string (a0 ++ a1 ++ a2 ++ a3 ++ z ++ a0)) rfl (by kernel_rfl) (by kernel_rfl) (by kernel_rfl) (fun _ _ _ h => h) (Or.inl ⟨by rfl, fun w' hS => ?_⟩) s26 ?_
          · rw [hSP] at hS
            obtain ⟨s1, s2, s3, s4⟩ := hS
            go_simp
          refine wpAnyH_take (i := 21) (v := .string (a0 ++ a1 ++ a2 ++ a3 ++ z ++ a0)) rfl (by kernel_rfl) (by kernel_rfl) (by kernel_rfl) (fun _ _ _ h => h) (Or.inl ⟨by rfl, fun w' hS => ?_⟩) s26 ?_
          · rw [hSP] at hS
            obtain ⟨s1, s2, s3, s4⟩ := hS
            go_simp
          refine wpAnyH_take (i := 22) (v := .int .i64 0) rfl (by kernel_rfl) (by kernel_rfl) (by kernel_rfl) (fun _ _ _ h => h) (Or.inl ⟨by rfl, fun w' hS => ?_⟩) s26 ?_
          · rw [hSP] at hS
            obtain ⟨s1, s2, s3, s4⟩ := hS
            go_simp
          refine wpAnyH_done (by kernel_rfl) (NoPanic.normal ?_) _
          go_simp
          go_wp2_with fail
          go_ret2
          exact ⟨by rw [← HFI.out]; rfl, t26⟩
      · skip
        have x27 := HC3.out _ _ k21
        refine wpOp_value (nx := .value (.string z)) (v := .string z) (w' := v21) rfl rfl (.inl rfl) (by go_simp) ⟨s21, ?_⟩
        refine wpAnyH_all (rs := [9]) (by kernel_rfl) (by simp) ?_
        intro i' hi'
        obtain rfl : i' = 9 := by simpa using hi'
        refine wpOp_enter (f := 31) (args := #[.int .u64 (h : Int), .int .i64 4]) rfl rfl (by go_simp) ?_
        refine (H2.out v21).mono ?_
        rintro e v28 ⟨rfl, hb28⟩
        have l28 : w.heap.size < v28.heap.size := Nat.lt_of_lt_of_le l21 hb28.size
        have s28 : SP v28 := by rw [hSP]; rw [hSP] at s21; exact (mbox_next hb28 s21 l21).1
        have t28 := bl_tr t21 hb28
        refine ⟨_, rfl, s28, ?_⟩
        refine wpAnyH_take (i := 10) (v := .string (a0 ++ a1 ++ a2)) rfl (by kernel_rfl) (by kernel_rfl) (by kernel_rfl) (fun _ _ _ h => h) (Or.inl ⟨by rfl, fun w' hS => ?_⟩) s28 ?_
        · rw [hSP] at hS
          obtain ⟨s1, s2, s3, s4⟩ := hS
          go_simp
        refine wpAnyH_all (rs := [14]) (by kernel_rfl) (by simp) ?_
        intro i' hi'
        obtain rfl : i' = 14 := by simpa using hi'
        refine wpOp_enter (f := 31) (args := #[.int .u64 (f : Int), .int .i64 4]) rfl rfl (by go_simp) ?_
        refine (H3.out v28).mono ?_
        rintro e v29 ⟨rfl, hb29⟩
        have l29 : w.heap.size < v29.heap.size := Nat.lt_of_lt_of_le l28 hb29.size
        have s29 : SP v29 := by rw [hSP]; rw [hSP] at s28; exact (mbox_next hb29 s28 l28).1
        have t29 := bl_tr t28 hb29
        refine ⟨_, rfl, s29, ?_⟩
        refine wpAnyH_take (i := 15) (v := .string (a0 ++ a1 ++ a2 ++ a3)) rfl (by kernel_rfl) (by kernel_rfl) (by kernel_rfl) (fun _ _ _ h => h) (Or.inl ⟨by rfl, fun w' hS => ?_⟩) s29 ?_
        · rw [hSP] at hS
          obtain ⟨s1, s2, s3, s4⟩ := hS
          go_simp
        refine wpAnyH_take (i := 18) (v := .string (a0 ++ a1 ++ a2 ++ a3 ++ z)) rfl (by kernel_rfl) (by kernel_rfl) (by kernel_rfl) (fun _ _ _ h => h) (Or.inl ⟨by rfl, fun w' hS => ?_⟩) s29 ?_
        · rw [hSP] at hS
          obtain ⟨s1, s2, s3, s4⟩ := hS
          go_simp
        refine wpAnyH_take (i := 20) (v := .string (a0 ++ a1 ++ a2 ++ a3 ++ z ++ a0)) rfl (by kernel_rfl) (by kernel_rfl) (by kernel_rfl) (fun _ _ _ h => h) (Or.inl ⟨by rfl, fun w' hS => ?_⟩) s29 ?_
        · rw [hSP] at hS
          obtain ⟨s1, s2, s3, s4⟩ := hS
          go_simp
        refine wpAnyH_take (i := 21) (v := .string (a0 ++ a1 ++ a2 ++ a3 ++ z ++ a0)) rfl (by kernel_rfl) (by kernel_rfl) (by kernel_rfl) (fun _ _ _ h => h) (Or.inl ⟨by rfl, fun w' hS => ?_⟩) s29 ?_
        · rw [hSP] at hS
          obtain ⟨s1, s2, s3, s4⟩ := hS
          go_simp
        refine wpAnyH_take (i := 22) (v := .int .i64 0) rfl (by kernel_rfl) (by kernel_rfl) (by kernel_rfl) (fun _ _ _ h => h) (Or.inl ⟨by rfl, fun w' hS => ?_⟩) s29 ?_
        · rw [hSP] at hS
          obtain ⟨s1, s2, s3, s4⟩ := hS
          go_simp
        refine wpAnyH_done (by kernel_rfl) (NoPanic.normal ?_) _
        go_simp
        go_wp2_with fail
        go_ret2
        exact ⟨by rw [← HFI.out]; rfl, t29⟩
    · skip
      have x30 := HC3.out _ _ (Blk.new w2 5 C).drew
      refine wpOp_value (nx := .value (.string z)) (v := .string z) (w' := (w2.drew.alloc (.cells C 5))) rfl rfl (.inl rfl) (by go_simp) ⟨s20, ?_⟩
      refine wpAnyH_all (rs := [4]) (by kernel_rfl) (by simp) ?_
      intro i' hi'
      obtain rfl : i' = 4 := by simpa using hi'
      refine wpOp_enter (f := 31) (args := #[.int .u64 (r : Int), .int .i64 4]) rfl rfl (by go_simp) ?_
      refine (H1.out (w2.drew.alloc (.cells C 5))).mono ?_
      rintro e v31 ⟨rfl, hb31⟩
      have l31 : w.heap.size < v31.heap.size := Nat.lt_of_lt_of_le l20 hb31.size
      have s31 : SP v31 := by rw [hSP]; rw [hSP] at s20; exact (mbox_next hb31 s20 l20).1
      have t31 := bl_tr t20 hb31
      refine ⟨_, rfl, s31, ?_⟩
      refine wpAnyH_take (i := 5) (v := .string (a0 ++ a1)) rfl (by kernel_rfl) (by kernel_rfl) (by kernel_rfl) (fun _ _ _ h => h) (Or.inl ⟨by rfl, fun w' hS => ?_⟩) s31 ?_
      · rw [hSP] at hS
        obtain ⟨s1, s2, s3, s4⟩ := hS
        go_simp
      refine wpAnyH_all (rs := [9]) (by kernel_rfl) (by simp) ?_
      intro i' hi'
      obtain rfl : i' = 9 := by simpa using hi'
      refine wpOp_enter (f := 31) (args := #[.int .u64 (h : Int), .int .i64 4]) rfl rfl (by go_simp) ?_
      refine (H2.out v31).mono ?_
      rintro e v32 ⟨rfl, hb32⟩
      have l32 : w.heap.size < v32.heap.size := Nat.lt_of_lt_of_le l31 hb32.size
      have s32 : SP v32 := by rw [hSP]; rw [hSP] at s31; exact (mbox_next hb32 s31 l31).1
      have t32 := bl_tr t31 hb32
      refine ⟨_, rfl, s32, ?_⟩
      refine wpAnyH_take (i := 10) (v := .string (a0 ++ a1 ++ a2)) rfl (by kernel_rfl) (by kernel_rfl) (by kernel_rfl) (fun _ _ _ h => h) (Or.inl ⟨by rfl, fun w' hS => ?_⟩) s32 ?_
      · rw [hSP] at hS
        obtain ⟨s1, s2, s3, s4⟩ := hS
        go_simp
      refine wpAnyH_all (rs := [14]) (by kernel_rfl) (by simp) ?_
      intro i' hi'
      obtain rfl : i' = 14 := by simpa using hi'
      refine wpOp_enter (f := 31) (args := #[.int .u64 (f : Int), .int .i64 4]) rfl rfl (by go_simp) ?_
      refine (H3.out v32).mono ?_
      rintro e v33 ⟨rfl, hb33⟩
      have l33 : w.heap.size < v33.heap.size := Nat.lt_of_lt_of_le l32 hb33.size
      have s33 : SP v33 := by rw [hSP]; rw [hSP] at s32; exact (mbox_next hb33 s32 l32).1
      have t33 := bl_tr t32 hb33
      refine ⟨_, rfl, s33, ?_⟩
      refine wpAnyH_take (i := 15) (v := .string (a0 ++ a1 ++ a2 ++ a3)) rfl (by kernel_rfl) (by kernel_rfl) (by kernel_rfl) (fun _ _ _ h => h) (Or.inl ⟨by rfl, fun w' hS => ?_⟩) s33 ?_
      · rw [hSP] at hS
        obtain ⟨s1, s2, s3, s4⟩ := hS
        go_simp
      refine wpAnyH_take (i := 18) (v := .string (a0 ++ a1 ++ a2 ++ a3 ++ z)) rfl (by kernel_rfl) (by kernel_rfl) (by kernel_rfl) (fun _ _ _ h => h) (Or.inl ⟨by rfl, fun w' hS => ?_⟩) s33 ?_
      · rw [hSP] at hS
        obtain ⟨s1, s2, s3, s4⟩ := hS
        go_simp
      refine wpAnyH_take (i := 20) (v := .string (a0 ++ a1 ++ a2 ++ a3 ++ z ++ a0)) rfl (by kernel_rfl) (by kernel_rfl) (by kernel_rfl) (fun _ _ _ h => h) (Or.inl ⟨by rfl, fun w' hS => ?_⟩) s33 ?_
      · rw [hSP] at hS
        obtain ⟨s1, s2, s3, s4⟩ := hS
        go_simp
      refine wpAnyH_take (i := 21) (v := .string (a0 ++ a1 ++ a2 ++ a3 ++ z ++ a0)) rfl (by kernel_rfl) (by kernel_rfl) (by kernel_rfl) (fun _ _ _ h => h) (Or.inl ⟨by rfl, fun w' hS => ?_⟩) s33 ?_
      · rw [hSP] at hS
        obtain ⟨s1, s2, s3, s4⟩ := hS
        go_simp
      refine wpAnyH_take (i := 22) (v := .int .i64 0) rfl (by kernel_rfl) (by kernel_rfl) (by kernel_rfl) (fun _ _ _ h => h) (Or.inl ⟨by rfl, fun w' hS => ?_⟩) s33 ?_
      · rw [hSP] at hS
        obtain ⟨s1, s2, s3, s4⟩ := hS
        go_simp
      refine wpAnyH_done (by kernel_rfl) (NoPanic.normal ?_) _
      go_simp
      go_wp2_with fail
      go_ret2
      exact ⟨by rw [← HFI.out]; rfl, t33⟩
end Go.Proofs.Ytdaoiimjflplhaa
