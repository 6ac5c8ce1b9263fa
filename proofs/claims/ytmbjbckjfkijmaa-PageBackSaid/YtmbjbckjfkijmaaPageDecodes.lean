/- PageDecodes: the page of bytes, by the program and by the reference. -/
import Derived.Test.YtmbjbckjfkijmaaLawP
namespace Go.Proofs.Ytmbjbckjfkijmaa
open Go.RowKit Go.Shelf
set_option linter.unusedVariables false

theorem decV_form (l : List UInt8) : ∃ (k i t : Nat) (b : ByteArray) (c : Int), decV l = .tuple #[.agg #[.int .i64 (k : Int), .int .u32 (i : Int), .int .u64 (t : Int), .string b], .int .i64 c] := by
  unfold decV
  split
  · exact ⟨_, _, _, _, _, rfl⟩
  · exact ⟨0, 0, 0, ⟨#[]⟩, _, rfl⟩
def text260 (s : ByteArray) : ByteArray := s.extract 0 (min (s.size : Int) 260).toNat
theorem text260_size (s : ByteArray) : (text260 s).size ≤ 260 := by
  unfold text260
  rw [ByteArray.size_extract]
  omega

set_option maxRecDepth 100000 in
set_option maxHeartbeats 4000000 in
theorem pageDecodes_walk (s : ByteArray) (full : Bool) (w : World) (hs : s.size ≤ maxLen) :
    Calls Try.prog 10 #[.string s, .bool full] w fun e w' => e = .returned (.bool true) ∧ Below w.heap.size w w' := by
  unfold maxLen at hs
  have H0 := Lib.hid (fun w => shown3_any w)
  obtain ⟨x, hx⟩ : ∃ x, s.extract 0 (min (s.size : Int) 260).toNat = x := ⟨_, rfl⟩
  have hxs : x.size ≤ 260 := by rw [← hx]; exact text260_size s
  have main : ∀ s2 : ByteArray, s2.size ≤ 600 → ∃ (k i t : Nat) (b : ByteArray) (c : Int), Hid ((∀ W : World, Calls Try.prog 36 #[.string s2] W fun e w' => e = .returned (.tuple #[.agg #[.int .i64 (k : Int), .int .u32 (i : Int), .int .u64 (t : Int), .string b], .int .i64 c]) ∧ Below W.heap.size W w') ∧
      (∀ W : World, Calls Try.prog 37 #[.string s2] W fun e w' => e = .returned (.tuple #[.agg #[.int .i64 (k : Int), .int .u32 (i : Int), .int .u64 (t : Int), .string b], .int .i64 c]) ∧ Below W.heap.size W w')) := by
    intro s2 h2
    obtain ⟨k, i, t, b, c, h⟩ := decV_form s2.data.toList
    refine ⟨k, i, t, b, c, Lib.hid ⟨fun W => ?_, fun W => ?_⟩⟩
    · rw [← h]
      exact decode_any s2 W (by unfold maxLen; omega)
    · rw [← h]
      exact rpdecode_any s2 W (by unfold maxLen; omega)
  have HM := Lib.hid main
  clear main
  have hcase : (full = true ∧ x.size < 256) ∨ (full = true ∧ ¬ x.size < 256) ∨ full = false := by
    cases full
    · exact .inr (.inr rfl)
    · by_cases h : x.size < 256
      · exact .inl ⟨rfl, h⟩
      · exact .inr (.inl ⟨rfl, h⟩)
  rcases hcase with ⟨rfl, hlt⟩ | ⟨rfl, hlt⟩ | rfl
  · have d1 : decide ((x.size : Int) < 256) = true := decide_eq_true (by omega)
    obtain ⟨C, hC1, hC2⟩ := made_u8 (256 - x.size) (by omega)
    have hc : ((256 - x.size : Nat) : Int) = 256 - (x.size : Int) := by omega
    rw [hc] at hC1
    obtain ⟨zr, hzr⟩ : ∃ zr, mk (List.replicate (256 - x.size) 0) = zr := ⟨_, rfl⟩
    rw [hzr] at hC2
    have hzr3 : zr.size ≤ 256 := by rw [← hzr, mk_size, List.length_replicate]; omega
    obtain ⟨m, hm⟩ : ∃ m, 256 - x.size = m := ⟨_, rfl⟩
    rw [hm] at hC1 hC2
    have HC1 := Lib.hid hC1
    have hx1 : (x.size : Int) ≤ 256 := by omega
    obtain ⟨k, i, t, b, c, HD⟩ := HM.out (x ++ zr) (by rw [ByteArray.size_append]; omega)
    clear hC1 hc hzr hm hlt
    go_enter Try.func10, Try.ntmps10
    go_wp2_with fail
    refine (H0.out _).mono ?_
    rintro e w1 ⟨rfl, hb1⟩
    have hcv := hC2 w1
    have G1 := Lib.hid hb1
    clear hC2 hb1
    go_wp2_with (first | ((with_reducible refine pl_makeI 64 5 (256 - (x.size : Int)) m C (HC1.out _) ?_ ?_ ?_); rfl; rfl) | fail)
    refine (HD.out.1 _).mono ?_
    rintro e w2 ⟨rfl, hb2⟩
    have G2 := Lib.hid (bl_tr (bl_al G1.out _) hb2)
    clear hb2
    go_wp2_with fail
    refine (HD.out.2 _).mono ?_
    rintro e w3 ⟨rfl, hb3⟩
    have b3 := (Blk.new w2 60 #[.int .i64 (k : Int), .int .u32 (i : Int), .int .u64 (t : Int), .string b]).below hb3 (by simp)
    have c0 : w3.cell? ⟨w2.heap.size, 0, none⟩ = some (.int .i64 (k : Int)) := b3.cell 0
    have c1 : w3.cell? ⟨w2.heap.size, 1, none⟩ = some (.int .u32 (i : Int)) := b3.cell 1
    have c2 : w3.cell? ⟨w2.heap.size, 2, none⟩ = some (.int .u64 (t : Int)) := b3.cell 2
    have c3 : w3.cell? ⟨w2.heap.size, 3, none⟩ = some (.string b) := b3.cell 3
    have hlt := b3.lt
    have G3 := Lib.hid (bl_tr (bl_al G2.out _) hb3)
    clear b3 hb3
    go_wp2
    go_ret
    exact ⟨rfl, bl_al G3.out _⟩
  · have d1 : decide ((x.size : Int) < 256) = false := decide_eq_false (by omega)
    clear hlt
    obtain ⟨k, i, t, b, c, HD⟩ := HM.out x (by omega)
    go_enter Try.func10, Try.ntmps10
    go_wp2_with fail
    refine (H0.out _).mono ?_
    rintro e w1 ⟨rfl, hb1⟩
    have G1 := Lib.hid hb1
    clear hb1
    go_wp2_with fail
    refine (HD.out.1 _).mono ?_
    rintro e w2 ⟨rfl, hb2⟩
    have G2 := Lib.hid (bl_tr (G1.out) hb2)
    clear hb2
    go_wp2_with fail
    refine (HD.out.2 _).mono ?_
    rintro e w3 ⟨rfl, hb3⟩
    have b3 := (Blk.new w2 60 #[.int .i64 (k : Int), .int .u32 (i : Int), .int .u64 (t : Int), .string b]).below hb3 (by simp)
    have c0 : w3.cell? ⟨w2.heap.size, 0, none⟩ = some (.int .i64 (k : Int)) := b3.cell 0
    have c1 : w3.cell? ⟨w2.heap.size, 1, none⟩ = some (.int .u32 (i : Int)) := b3.cell 1
    have c2 : w3.cell? ⟨w2.heap.size, 2, none⟩ = some (.int .u64 (t : Int)) := b3.cell 2
    have c3 : w3.cell? ⟨w2.heap.size, 3, none⟩ = some (.string b) := b3.cell 3
    have hlt := b3.lt
    have G3 := Lib.hid (bl_tr (bl_al G2.out _) hb3)
    clear b3 hb3
    go_wp2
    go_ret
    exact ⟨rfl, bl_al G3.out _⟩
  · obtain ⟨k, i, t, b, c, HD⟩ := HM.out x (by omega)
    go_enter Try.func10, Try.ntmps10
    go_wp2_with fail
    refine (H0.out _).mono ?_
    rintro e w1 ⟨rfl, hb1⟩
    have G1 := Lib.hid hb1
    clear hb1
    go_wp2_with fail
    refine (HD.out.1 _).mono ?_
    rintro e w2 ⟨rfl, hb2⟩
    have G2 := Lib.hid (bl_tr (G1.out) hb2)
    clear hb2
    go_wp2_with fail
    refine (HD.out.2 _).mono ?_
    rintro e w3 ⟨rfl, hb3⟩
    have b3 := (Blk.new w2 60 #[.int .i64 (k : Int), .int .u32 (i : Int), .int .u64 (t : Int), .string b]).below hb3 (by simp)
    have c0 : w3.cell? ⟨w2.heap.size, 0, none⟩ = some (.int .i64 (k : Int)) := b3.cell 0
    have c1 : w3.cell? ⟨w2.heap.size, 1, none⟩ = some (.int .u32 (i : Int)) := b3.cell 1
    have c2 : w3.cell? ⟨w2.heap.size, 2, none⟩ = some (.int .u64 (t : Int)) := b3.cell 2
    have c3 : w3.cell? ⟨w2.heap.size, 3, none⟩ = some (.string b) := b3.cell 3
    have hlt := b3.lt
    have G3 := Lib.hid (bl_tr (bl_al G2.out _) hb3)
    clear b3 hb3
    go_wp2
    go_ret
    exact ⟨rfl, bl_al G3.out _⟩
end Go.Proofs.Ytmbjbckjfkijmaa
