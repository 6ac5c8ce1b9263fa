/- Sum, Join, put and Seal of package sum: what each call returns, and that it leaves whatever lay as it lay. No condition but that a text's length is a length. -/
import Derived.Test.YtcklponeofdfcaaSumX
namespace Go.Proofs.Ytcklponeofdfcaa
open Go.RowKit Go.Shelf

theorem joined_int (a b : Int) (w : World) (ha0 : 0 ≤ a) (hb0 : 0 ≤ b) (ha : a < 281474976710656) (hb : b < 281474976710656) :
    Calls Try.prog 27 #[.agg #[.int .u64 a, .int .u64 b]] w fun e w' => e = .returned (.int .u32 (Sm.pack (a.toNat % 65521, b.toNat % 65521) : Nat)) ∧ Below w.heap.size w w' := by
  obtain ⟨a, rfl⟩ := Int.eq_ofNat_of_zero_le ha0
  obtain ⟨b, rfl⟩ := Int.eq_ofNat_of_zero_le hb0
  exact joined_any a b w (by omega) (by omega)

set_option maxHeartbeats 400000 in
theorem sum_any (s : ByteArray) (w : World) (hs : s.size ≤ maxLen) :
    Calls Try.prog 12 #[.string s] w fun e w' => e = .returned (.int .u32 (Sm.sumV s.data.toList : Nat)) ∧ Below w.heap.size w w' := by
  have HM := fun w => more_yes 1 s w (by omega) hs rfl
  go_enter Try.func12, Try.ntmps12
  go_wp2_with (go_at_call 14; refine (HM _).mono ?_; rintro e w1 ⟨rfl, hb1⟩)
  go_ret
  exact ⟨rfl, hb1⟩

set_option maxHeartbeats 400000 in
theorem join_no (a b : Nat) (n : Int) (w : World) (ha : a < 4294967296) (hb : b < 4294967296) (h : Sm.okJ a b n = false) :
    Calls Try.prog 18 #[.int .u32 a, .int .u32 b, .int .i64 n] w fun e w' => e = .returned (.tuple #[.int .u32 0, .int .i64 2]) ∧ Below w.heap.size w w' := by
  have hpa := fun w => parted_any a w ha
  have hpb := fun w => parted_any b w hb
  have hc : Sm.okS a = false ∨ (Sm.okS a = true ∧ Sm.okS b = false) ∨ (Sm.okS a = true ∧ Sm.okS b = true ∧ n < 0) ∨ (Sm.okS a = true ∧ Sm.okS b = true ∧ 0 ≤ n ∧ 1048576 < n) := by
    unfold Sm.okJ at h
    cases h1 : Sm.okS a <;> cases h2 : Sm.okS b <;> simp [h1, h2] at h ⊢
    omega
  clear h
  rcases hc with h1 | ⟨h1, h2⟩ | ⟨h1, h2, h3⟩ | ⟨h1, h2, h3, h4⟩
  · rw [h1] at hpa
    have HA := Lib.hid hpa
    have HB := Lib.hid hpb
    clear hpa hpb h1
    go_enter Try.func18, Try.ntmps18
    go_wp2_with fail
    refine (HA.out _).mono ?_
    rintro e w1 ⟨rfl, hb1⟩
    go_wp2_with fail
    refine (HB.out _).mono ?_
    rintro e w2 ⟨rfl, hb2⟩
    go_wp2
    go_ret2
    exact ⟨rfl, bl_al (bl_tr (bl_al hb1 _) hb2) _⟩
  all_goals
    rw [h1] at hpa
    rw [h2] at hpb
    have HA := Lib.hid hpa
    have HB := Lib.hid hpb
    clear hpa hpb h1 h2
    go_enter Try.func18, Try.ntmps18
    go_wp2_with fail
    refine (HA.out _).mono ?_
    rintro e w1 ⟨rfl, hb1⟩
    go_wp2_with fail
    refine (HB.out _).mono ?_
    rintro e w2 ⟨rfl, hb2⟩
    go_wp2
    go_ret2
    exact ⟨rfl, bl_al (bl_tr (bl_al hb1 _) hb2) _⟩

theorem joinW (n x y v : Nat) (hn : n ≤ 1048576) (hx : x < 65521) (hy : y < 65521) (hv : v < 65521) :
    IntKind.u64.wrap ((y : Int) + (v : Int) + (IntKind.u64.wrap ((n : Int) * ((x : Int) + 65521 - 1))).tmod 65521) = (y : Int) + (v : Int) + ((n * (x + 65520) : Nat) : Int) % 65521 := by
  have hp : n * (x + 65520) ≤ 1048576 * (x + 65520) := Nat.mul_le_mul_right _ hn
  have hm : IntKind.u64.wrap ((n : Int) * ((x : Int) + 65521 - 1)) = ((n * (x + 65520) : Nat) : Int) := by
    rw [show ((x : Int) + 65521 - 1) = ((x + 65520 : Nat) : Int) by omega, ← Int.natCast_mul]
    exact IntWalk.u64_in _ (by omega)
  rw [hm, IntWalk.rem_in _ _ (by omega), IntWalk.u64_in _ (by omega)]

theorem joined_at (n x y u v : Nat) (w : World) (hn : n ≤ 1048576) (hx : x < 65521) (hy : y < 65521) (hu : u < 65521) (hv : v < 65521) :
    Calls Try.prog 27 #[.agg #[.int .u64 ((x : Int) + (u : Int) + 65521 - 1), .int .u64 (IntKind.u64.wrap ((y : Int) + (v : Int) + (IntKind.u64.wrap ((n : Int) * ((x : Int) + 65521 - 1))).tmod 65521))]] w fun e w' =>
      e = .returned (.int .u32 (Sm.pack ((x + u + 65520) % 65521, (y + v + n * (x + 65520)) % 65521) : Nat)) ∧ Below w.heap.size w w' := by
  rw [joinW n x y v hn hx hy hv]
  generalize n * (x + 65520) = p
  refine (joined_int _ _ _ (by omega) (by omega) (by omega) (by omega)).mono ?_
  rintro e w3 ⟨rfl, hb3⟩
  refine ⟨?_, hb3⟩
  rw [show ((x : Int) + (u : Int) + 65521 - 1).toNat % 65521 = (x + u + 65520) % 65521 by omega, show ((y : Int) + (v : Int) + (p : Int) % 65521).toNat % 65521 = (y + v + p) % 65521 by omega]

set_option maxRecDepth 100000 in
set_option maxHeartbeats 400000 in
theorem join_yes (a b n : Nat) (w : World) (ha : a < 4294967296) (hb : b < 4294967296) (h1 : Sm.okS a = true) (h2 : Sm.okS b = true) (hn : n ≤ 1048576) :
    Calls Try.prog 18 #[.int .u32 a, .int .u32 b, .int .i64 n] w fun e w' =>
      e = .returned (.tuple #[.int .u32 (Sm.pack ((a % 65536 + b % 65536 + 65520) % 65521, (a / 65536 + b / 65536 + n * (a % 65536 + 65520)) % 65521) : Nat), .int .i64 0]) ∧ Below w.heap.size w w' := by
  have hpa := fun w => parted_any a w ha
  have hpb := fun w => parted_any b w hb
  rw [h1] at hpa
  rw [h2] at hpb
  obtain ⟨h3, h4⟩ := (Sm.okS_iff a).1 h1
  obtain ⟨h5, h6⟩ := (Sm.okS_iff b).1 h2
  clear h1 h2
  obtain ⟨x, hx⟩ : ∃ x, a % 65536 = x := ⟨_, rfl⟩
  obtain ⟨y, hy⟩ : ∃ y, a / 65536 = y := ⟨_, rfl⟩
  obtain ⟨u, hu⟩ : ∃ u, b % 65536 = u := ⟨_, rfl⟩
  obtain ⟨v, hv⟩ : ∃ v, b / 65536 = v := ⟨_, rfl⟩
  rw [hx] at h3 hpa ⊢
  rw [hy] at h4 hpa ⊢
  rw [hu] at h5 hpb ⊢
  rw [hv] at h6 hpb ⊢
  have hj := fun w => joined_at n x y u v w hn h3 h4 h5 h6
  obtain ⟨r, hr⟩ : ∃ r, Sm.pack ((x + u + 65520) % 65521, (y + v + n * (x + 65520)) % 65521) = r := ⟨_, rfl⟩
  rw [hr] at hj ⊢
  have HA := Lib.hid hpa
  have HB := Lib.hid hpb
  have HJ := Lib.hid hj
  clear hpa hpb hx hy hu hv hj hr
  go_enter Try.func18, Try.ntmps18
  go_wp2_with fail
  refine (HA.out _).mono ?_
  rintro e w1 ⟨rfl, hb1⟩
  go_wp2_with fail
  refine (HB.out _).mono ?_
  rintro e w2 ⟨rfl, hb2⟩
  have c0 : Blk (w2.alloc (.cells #[.int .u64 (u : Int), .int .u64 (v : Int)] 43)) w1.heap.size 43 #[.int .u64 (x : Int), .int .u64 (y : Int)] :=
    ((Blk.new w1 _ _).below hb2 (by simp)).alloc _
  have c1 : (w2.alloc (.cells #[.int .u64 (u : Int), .int .u64 (v : Int)] 43)).cell? ⟨w1.heap.size, 0, none⟩ = some (.int .u64 (x : Int)) := c0.cell 0
  have c2 : (w2.alloc (.cells #[.int .u64 (u : Int), .int .u64 (v : Int)] 43)).cell? ⟨w1.heap.size, 1, none⟩ = some (.int .u64 (y : Int)) := c0.cell 1
  have hsz : w1.heap.size < w2.heap.size := by have := hb2.size; simp at this; omega
  clear c0
  go_wp2_with fail
  refine (HJ.out _).mono ?_
  rintro e w3 ⟨rfl, hb3⟩
  go_wp2
  go_ret2
  exact ⟨rfl, bl_tr (bl_al (bl_tr (bl_al hb1 _) hb2) _) hb3⟩
end Go.Proofs.Ytcklponeofdfcaa
