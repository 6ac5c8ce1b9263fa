/- The functions right, More, Sum of package bazaarref02: what each call returns, and that it leaves whatever lay as it lay. No condition but that a text's length is a length. -/
import Derived.Test.YtmbjbckjfkijmaaBase
import Derived.Test.YtmbjbckjfkijmaaConv
import Derived.Test.YtmbjbckjfkijmaaSumM
import Derived.Test.YtmbjbckjfkijmaaProg
namespace Go.Proofs.Ytmbjbckjfkijmaa
open Go.RowKit

set_option maxRecDepth 100000 in
set_option maxHeartbeats 400000 in
theorem rright_any (n : Nat) (w : World) (hn : n < 4294967296) :
    Calls Try.prog 80 #[.int .u32 n] w fun e w' => e = .returned (.bool (Sm.okS n)) ∧ w = w' := by
  by_cases h2 : n / 65536 < 65521
  · have k2 : decide ((n : Int) / 65536 < 65521) = true := decide_eq_true (by omega)
    by_cases h1 : n % 65536 < 65521
    · have k1 : decide ((n : Int) % 65536 < 65521) = true := decide_eq_true (by omega)
      have hok : Sm.okS n = true := (Sm.okS_iff n).2 ⟨h1, h2⟩
      rw [hok]
      clear hok h1 h2
      go_enter Try.func80, Try.ntmps80
      go_wp2
      go_ret
      exact ⟨rfl, rfl⟩
    · have k1 : decide ((n : Int) % 65536 < 65521) = false := decide_eq_false (by omega)
      have hok : Sm.okS n = false := by rw [Bool.eq_false_iff]; intro e; exact h1 ((Sm.okS_iff n).1 e).1
      rw [hok]
      clear hok h1 h2
      go_enter Try.func80, Try.ntmps80
      go_wp2
      go_ret
      exact ⟨rfl, rfl⟩
  · have k2 : decide ((n : Int) / 65536 < 65521) = false := decide_eq_false (by omega)
    have hok : Sm.okS n = false := by rw [Bool.eq_false_iff]; intro e; exact h2 ((Sm.okS_iff n).1 e).2
    rw [hok]
    clear hok h2
    go_enter Try.func80, Try.ntmps80
    go_wp2
    go_ret
    exact ⟨rfl, rfl⟩

set_option maxRecDepth 100000 in
set_option maxHeartbeats 400000 in
theorem rmore_no (n : Nat) (s : ByteArray) (w : World) (hn : n < 4294967296) (hok : Sm.okS n = false) :
    Calls Try.prog 74 #[.int .u32 n, .string s] w fun e w' => e = .returned (.tuple #[.int .u32 0, .int .i64 2]) ∧ w = w' := by
  have h := fun w => rright_any n w hn
  rw [hok] at h
  have H := Lib.hid h
  clear h hok
  go_enter Try.func74, Try.ntmps74
  go_wp2_with fail
  refine (H.out _).mono ?_
  rintro e w1 ⟨rfl, rfl⟩
  go_wp2
  go_ret2
  exact ⟨rfl, rfl⟩

set_option maxRecDepth 100000 in
set_option maxHeartbeats 1000000 in
theorem rmore_yes (n : Nat) (s : ByteArray) (w : World) (hn : n < 4294967296) (hs : s.size ≤ maxLen) (hok : Sm.okS n = true) :
    Calls Try.prog 74 #[.int .u32 n, .string s] w fun e w' => e = .returned (.tuple #[.int .u32 (Sm.pack (Sm.adl (n % 65536, n / 65536) s.data.toList) : Nat), .int .i64 0]) ∧ w = w' := by
  unfold maxLen at hs
  have h := fun w => rright_any n w hn
  rw [hok] at h
  obtain ⟨h1, h2⟩ := (Sm.okS_iff n).1 hok
  have H := Lib.hid h
  clear h hok
  go_enter Try.func74, Try.ntmps74
  go_wp2_with fail
  refine (H.out _).mono ?_
  rintro e w1 ⟨rfl, rfl⟩
  go_wp2
  go_loop [7, 8, 9] (fun a b i => ∃ k : Nat, k ≤ s.size ∧ i = .int .i64 k ∧ a = .int .u32 ((Sm.adl (n % 65536, n / 65536) (s.data.toList.take k)).1 : Nat) ∧ b = .int .u32 ((Sm.adl (n % 65536, n / 65536) (s.data.toList.take k)).2 : Nat))
    (fun _ _ i => (s.size - (intOf i).toNat))
  case atStart => exact ⟨0, by omega, by go_num, by simp [Sm.adl_nil], by simp [Sm.adl_nil]⟩
  case round =>
    obtain ⟨k, hk, rfl, rfl, rfl⟩ := hrel
    have hlt1 := Sm.adl_lt (n % 65536, n / 65536) (s.data.toList.take k) h1 h2
    by_cases hlt : k < s.size
    · have hst := Sm.adl_snoc (n % 65536, n / 65536) (s.data.toList.take k) s[k]
      rw [← Sm.take_snoc s k hlt] at hst
      generalize Sm.adl (n % 65536, n / 65536) (s.data.toList.take k) = p at *
      obtain ⟨x, y⟩ := p
      simp only [Sm.stp] at hst hlt1
      obtain ⟨hx, hy⟩ := hlt1
      have hc := s[k].toNat_lt
      have HS := Lib.hid hst
      clear hst h1 h2
      go_wp2
      go_round
      case rel => exact ⟨k + 1, by omega, by go_num, by rw [HS.out]; go_num, by rw [HS.out]; go_num⟩
      case measure => simp [intOf]; omega
    · obtain rfl : k = s.size := by omega
      rw [List.take_of_length_le (by rw [ba_length]; omega)] at hlt1 ⊢
      obtain ⟨⟨x, y⟩, hp⟩ : ∃ p, Sm.adl (n % 65536, n / 65536) s.data.toList = p := ⟨_, rfl⟩
      rw [hp] at hlt1 ⊢
      obtain ⟨hx, hy⟩ := hlt1
      have hj : bits .or .u32 ((y : Int) * 65536) (x : Int) = ((y * 65536 + x : Nat) : Int) := by
        have h := u32_join16 x y (by omega) (by omega)
        rw [Int.natCast_mul] at h
        exact h
      have HP := Lib.hid hp
      clear hp
      go_wp2
      go_ret2
      refine ⟨?_, rfl⟩
      rw [HP.out]
      rfl

set_option maxHeartbeats 400000 in
theorem rsum_any (s : ByteArray) (w : World) (hs : s.size ≤ maxLen) :
    Calls Try.prog 66 #[.string s] w fun e w' => e = .returned (.int .u32 (Sm.sumV s.data.toList : Nat)) ∧ w = w' := by
  have HM := fun w => rmore_yes 1 s w (by omega) hs rfl
  go_enter Try.func66, Try.ntmps66
  go_wp2_with (go_at_call 74; refine (HM _).mono ?_; rintro e w1 ⟨rfl, rfl⟩)
  go_ret
  exact ⟨rfl, rfl⟩
end Go.Proofs.Ytmbjbckjfkijmaa
