/- Join, Seal, Open, Turn of package bazaarref02: what each call returns, and that it leaves whatever lay as it lay. No condition but that a text's length is a length. -/
import Derived.Test.YtcklponeofdfcaaRef02
import Derived.Test.YtcklponeofdfcaaSumM2
namespace Go.Proofs.Ytcklponeofdfcaa
open Go.RowKit

set_option maxRecDepth 100000 in
set_option maxHeartbeats 1000000 in
theorem rjoin_no (a b : Nat) (n : Int) (w : World) (ha : a < 4294967296) (hb : b < 4294967296) (h : Sm.okJ a b n = false) :
    Calls Try.prog 19 #[.int .u32 a, .int .u32 b, .int .i64 n] w fun e w' => e = .returned (.tuple #[.int .u32 0, .int .i64 2]) ∧ w = w' := by
  have hpa := fun w => rright_any a w ha
  have hpb := fun w => rright_any b w hb
  have hc : Sm.okS a = false ∨ (Sm.okS a = true ∧ Sm.okS b = false) ∨ (Sm.okS a = true ∧ Sm.okS b = true ∧ n < 0) ∨ (Sm.okS a = true ∧ Sm.okS b = true ∧ 0 ≤ n ∧ 1048576 < n) := by
    unfold Sm.okJ at h
    cases h1 : Sm.okS a <;> cases h2 : Sm.okS b <;> simp [h1, h2] at h ⊢
    omega
  clear h
  rcases hc with h1 | ⟨h1, h2⟩ | ⟨h1, h2, h3⟩ | ⟨h1, h2, h3, h4⟩
  · rw [h1] at hpa
    have HA := Lib.hid hpa
    clear hpa hpb h1
    go_enter Try.func19, Try.ntmps19
    go_wp2_with fail
    refine (HA.out _).mono ?_
    rintro e w1 ⟨rfl, rfl⟩
    go_wp2
    go_ret2
    exact ⟨rfl, rfl⟩
  · rw [h1] at hpa
    rw [h2] at hpb
    have HA := Lib.hid hpa
    have HB := Lib.hid hpb
    clear hpa hpb h1 h2
    go_enter Try.func19, Try.ntmps19
    go_wp2_with fail
    refine (HA.out _).mono ?_
    rintro e w1 ⟨rfl, rfl⟩
    go_wp2_with fail
    refine (HB.out _).mono ?_
    rintro e w2 ⟨rfl, rfl⟩
    go_wp2
    go_ret2
    exact ⟨rfl, rfl⟩
  · rw [h1] at hpa
    rw [h2] at hpb
    have HA := Lib.hid hpa
    have HB := Lib.hid hpb
    have k1 : decide (n < 0) = true := decide_eq_true h3
    clear hpa hpb h1 h2
    go_enter Try.func19, Try.ntmps19
    go_wp2_with fail
    refine (HA.out _).mono ?_
    rintro e w1 ⟨rfl, rfl⟩
    go_wp2_with fail
    refine (HB.out _).mono ?_
    rintro e w2 ⟨rfl, rfl⟩
    go_wp2
    go_ret2
    exact ⟨rfl, rfl⟩
  · rw [h1] at hpa
    rw [h2] at hpb
    have HA := Lib.hid hpa
    have HB := Lib.hid hpb
    have k1 : decide (n < 0) = false := decide_eq_false (by omega)
    have k2 : decide (1048576 < n) = true := decide_eq_true (by omega)
    clear hpa hpb h1 h2
    go_enter Try.func19, Try.ntmps19
    go_wp2_with fail
    refine (HA.out _).mono ?_
    rintro e w1 ⟨rfl, rfl⟩
    go_wp2_with fail
    refine (HB.out _).mono ?_
    rintro e w2 ⟨rfl, rfl⟩
    go_wp2
    go_ret2
    exact ⟨rfl, rfl⟩

theorem rjoinE (X Y U V N : Int) (_hX : 0 ≤ X ∧ X < 65536) (hY : 0 ≤ Y ∧ Y < 65536) (_hU : 0 ≤ U ∧ U < 65536) (hV : 0 ≤ V ∧ V < 65536) :
    bits BinOp.or IntKind.u64 (IntKind.u64.wrap ((IntKind.u64.wrap (Y + V + IntKind.u64.wrap (N % 65521 * ((X + 65521 - 1) % 65521)))).tmod 65521 * 65536)) ((X + U + 65521 - 1) % 65521) % 4294967296 =
      (Y + V + N * (X + 65520)) % 65521 * 65536 + (X + U + 65520) % 65521 := by
  have hM0 : 0 ≤ N % 65521 * ((X + 65521 - 1) % 65521) := Int.mul_nonneg (by omega) (by omega)
  have hM1 : N % 65521 * ((X + 65521 - 1) % 65521) ≤ 65520 * 65520 := Int.mul_le_mul (by omega) (by omega) (by omega) (by omega)
  have hMm : (N % 65521 * ((X + 65521 - 1) % 65521)) % 65521 = (N * (X + 65520)) % 65521 := by
    rw [← Int.mul_emod, show X + 65521 - 1 = X + 65520 by omega]
  generalize N % 65521 * ((X + 65521 - 1) % 65521) = M at *
  generalize N * (X + 65520) = K at *
  rw [IntWalk.u64_in M (by omega), IntWalk.u64_in (Y + V + M) (by omega), IntWalk.rem_in _ _ (by omega), IntWalk.u64_in ((Y + V + M) % 65521 * 65536) (by omega)]
  obtain ⟨s, hs⟩ := Int.eq_ofNat_of_zero_le (show 0 ≤ (X + U + 65521 - 1) % 65521 by omega)
  obtain ⟨t, ht⟩ := Int.eq_ofNat_of_zero_le (show 0 ≤ (Y + V + M) % 65521 by omega)
  have hj := u64_join16 s t (by omega) (by omega)
  have e1 : (Y + V + K) % 65521 = (t : Int) := by rw [← ht]; omega
  have e2 : (X + U + 65520) % 65521 = (s : Int) := by rw [← hs]; omega
  rw [hs, ht, e1, e2, show ((t : Nat) : Int) * 65536 = ((t * 65536 : Nat) : Int) by omega, hj]
  omega
theorem pack_cast (x y u v K : Nat) : ((y : Int) + (v : Int) + (K : Int)) % 65521 * 65536 + ((x : Int) + (u : Int) + 65520) % 65521 = ((Sm.pack ((x + u + 65520) % 65521, (y + v + K) % 65521) : Nat) : Int) := by
  unfold Sm.pack
  simp only
  omega

set_option maxRecDepth 100000 in
set_option maxHeartbeats 1000000 in
theorem rjoin_yes (a b n : Nat) (w : World) (ha : a < 4294967296) (hb : b < 4294967296) (h1 : Sm.okS a = true) (h2 : Sm.okS b = true) (hn : n ≤ 1048576) :
    Calls Try.prog 19 #[.int .u32 a, .int .u32 b, .int .i64 n] w fun e w' =>
      e = .returned (.tuple #[.int .u32 (Sm.pack ((a % 65536 + b % 65536 + 65520) % 65521, (a / 65536 + b / 65536 + n * (a % 65536 + 65520)) % 65521) : Nat), .int .i64 0]) ∧ w = w' := by
  have hpa := fun w => rright_any a w ha
  have hpb := fun w => rright_any b w hb
  rw [h1] at hpa
  rw [h2] at hpb
  have k1 : decide ((n : Int) < 0) = false := decide_eq_false (by omega)
  have k2 : decide (1048576 < (n : Int)) = false := decide_eq_false (by omega)
  have HA := Lib.hid hpa
  have HB := Lib.hid hpb
  have q1 : a % 65536 < 65536 := by omega
  have q2 : a / 65536 < 65536 := by omega
  have q3 : b % 65536 < 65536 := by omega
  have q4 : b / 65536 < 65536 := by omega
  clear hpa hpb h1 h2
  go_enter Try.func19, Try.ntmps19
  go_wp2_with fail
  refine (HA.out _).mono ?_
  rintro e w1 ⟨rfl, rfl⟩
  go_wp2_with fail
  refine (HB.out _).mono ?_
  rintro e w2 ⟨rfl, rfl⟩
  go_wp2
  go_ret2
  refine ⟨?_, rfl⟩
  show Ending.returned (.tuple #[.int .u32 (bits BinOp.or IntKind.u64 (IntKind.u64.wrap ((IntKind.u64.wrap ((a : Int) / 65536 + (b : Int) / 65536 + IntKind.u64.wrap ((n : Int) % 65521 * (((a : Int) % 65536 + 65521 - 1) % 65521)))).tmod 65521 * 65536)) (((a : Int) % 65536 + (b : Int) % 65536 + 65521 - 1) % 65521) % 4294967296), .int .i64 0]) = _
  rw [rjoinE _ _ _ _ _ (by omega) (by omega) (by omega) (by omega)]
  rw [show (a : Int) % 65536 = ((a % 65536 : Nat) : Int) by omega, show (a : Int) / 65536 = ((a / 65536 : Nat) : Int) by omega, show (b : Int) % 65536 = ((b % 65536 : Nat) : Int) by omega, show (b : Int) / 65536 = ((b / 65536 : Nat) : Int) by omega]
  generalize a % 65536 = x
  generalize a / 65536 = y
  generalize b % 65536 = u
  generalize b / 65536 = v
  rw [show (n : Int) * ((x : Int) + 65520) = ((n * (x + 65520) : Nat) : Int) by simp [Int.natCast_mul], pack_cast]
end Go.Proofs.Ytcklponeofdfcaa
