/- Right, Encode and Decode of package bazaarref04: what each call returns, and that it leaves whatever lay as it lay. -/
import Derived.Test.YtdaoiimjflplhaaMetaD
import Derived.Test.YtdaoiimjflplhaaMade
import Derived.Deep.RegionHeld3
namespace Go.Proofs.Ytdaoiimjflplhaa
open Go.RowKit Go.Shelf
set_option linter.unusedVariables false

theorem placeB_zero (p h : Nat) (h0 : p = 0) : placeB p h = true := decide_eq_true (.inl h0)
theorem placeB_two (p h : Nat) (h0 : p ≠ 0) (h1 : 2 ≤ p) : placeB p h = decide (p < h) := by
  unfold placeB
  exact decide_eq_decide.2 (by omega)
theorem placeB_one (p h : Nat) (h0 : p ≠ 0) (h1 : ¬ 2 ≤ p) : placeB p h = false := decide_eq_false (by omega)

set_option maxRecDepth 100000 in
set_option maxHeartbeats 4000000 in
theorem rmright_any (t r h f : Nat) (w : World) :
    Calls Try.prog 14 #[metaV t r h f] w fun e w' => e = .returned (.bool (mRightB t r h f)) ∧ Below w.heap.size w w' := by
  unfold metaV
  go_enter Try.func14, Try.ntmps14
  go_upto_region 1 with fail
  go_cut [3] (fun s3 wx => s3 = .bool (placeB r h) ∧ wx = (w.alloc (.cells #[.int .u64 (t : Int), .int .u32 (r : Int), .int .u32 (h : Int), .int .u32 (f : Int)] 25)))
  case first =>
    by_cases h0 : r = 0
    · have HP := Lib.hid (placeB_zero r h h0)
      have e0 : ((r : Int) == 0) = true := by simp [h0]
      clear h0
      go_wp2_with fail
      go_meet
      rw [HP.out]
      exact ⟨rfl, rfl⟩
    · by_cases h1 : 2 ≤ r
      · have HP := Lib.hid (placeB_two r h h0 h1)
        have e0 : ((r : Int) == 0) = false := by simp [h0]
        have e1 : decide (2 ≤ (r : Int)) = true := decide_eq_true (by omega)
        clear h0
        go_wp2_with fail
        go_meet
        rw [HP.out]
        exact ⟨by simp, rfl⟩
      · have HP := Lib.hid (placeB_one r h h0 h1)
        have e0 : ((r : Int) == 0) = false := by simp [h0]
        have e1 : decide (2 ≤ (r : Int)) = false := decide_eq_false (by omega)
        clear h0
        go_wp2_with fail
        go_meet
        rw [HP.out]
        exact ⟨rfl, rfl⟩
  case rest =>
    obtain ⟨rfl, rfl⟩ := hcut
    go_upto_region 2 with fail
    go_cut [4] (fun s4 wx => s4 = .bool (placeB f h) ∧ wx = (w.alloc (.cells #[.int .u64 (t : Int), .int .u32 (r : Int), .int .u32 (h : Int), .int .u32 (f : Int)] 25)))
    case first =>
      by_cases h0 : f = 0
      · have HP := Lib.hid (placeB_zero f h h0)
        have e0 : ((f : Int) == 0) = true := by simp [h0]
        clear h0
        go_wp2_with fail
        go_meet
        rw [HP.out]
        exact ⟨rfl, rfl⟩
      · by_cases h1 : 2 ≤ f
        · have HP := Lib.hid (placeB_two f h h0 h1)
          have e0 : ((f : Int) == 0) = false := by simp [h0]
          have e1 : decide (2 ≤ (f : Int)) = true := decide_eq_true (by omega)
          clear h0
          go_wp2_with fail
          go_meet
          rw [HP.out]
          exact ⟨by simp, rfl⟩
        · have HP := Lib.hid (placeB_one f h h0 h1)
          have e0 : ((f : Int) == 0) = false := by simp [h0]
          have e1 : decide (2 ≤ (f : Int)) = false := decide_eq_false (by omega)
          clear h0
          go_wp2_with fail
          go_meet
          rw [HP.out]
          exact ⟨rfl, rfl⟩
    case rest =>
      obtain ⟨rfl, rfl⟩ := hcut
      by_cases h1 : 1 ≤ t
      · by_cases h2 : 2 ≤ h
        · by_cases h3 : h ≤ 16384
          · have hd : decide (0 < t ∧ 2 ≤ h ∧ h ≤ 16384) = true := decide_eq_true ⟨h1, h2, h3⟩
            have d0 : decide (1 ≤ (t : Int)) = true := decide_eq_true (by omega)
            have d1 : decide (2 ≤ (h : Int)) = true := decide_eq_true (by omega)
            have d2 : decide ((h : Int) ≤ 16384) = true := decide_eq_true (by omega)
            cases hp : placeB r h with
            | false =>
              have HR : Hid (mRightB t r h f = false) := Lib.hid (by rw [mRightB_parts t r h f true false _ hd hp rfl]; rfl)
              clear hp hd
              go_wp2
              go_ret
              exact ⟨by rw [HR.out]; rfl, bl_al (bl_re w) _⟩
            | true =>
              have HR : Hid (mRightB t r h f = placeB f h) := Lib.hid (by rw [mRightB_parts t r h f true true _ hd hp rfl]; rfl)
              clear hp hd
              go_wp2
              go_ret
              exact ⟨by rw [HR.out]; rfl, bl_al (bl_re w) _⟩
          · have HR : Hid (mRightB t r h f = false) := Lib.hid (mRightB_parts t r h f false _ _ (decide_eq_false (by omega)) rfl rfl)
            have d0 : decide (1 ≤ (t : Int)) = true := decide_eq_true (by omega)
            have d1 : decide (2 ≤ (h : Int)) = true := decide_eq_true (by omega)
            have d2 : decide ((h : Int) ≤ 16384) = false := decide_eq_false (by omega)
            go_wp2
            go_ret
            exact ⟨by rw [HR.out]; rfl, bl_al (bl_re w) _⟩
        · have HR : Hid (mRightB t r h f = false) := Lib.hid (mRightB_parts t r h f false _ _ (decide_eq_false (by omega)) rfl rfl)
          have d0 : decide (1 ≤ (t : Int)) = true := decide_eq_true (by omega)
          have d1 : decide (2 ≤ (h : Int)) = false := decide_eq_false (by omega)
          go_wp2
          go_ret
          exact ⟨by rw [HR.out]; rfl, bl_al (bl_re w) _⟩
      · have HR : Hid (mRightB t r h f = false) := Lib.hid (mRightB_parts t r h f false _ _ (decide_eq_false (by omega)) rfl rfl)
        have d0 : decide (1 ≤ (t : Int)) = false := decide_eq_false (by omega)
        go_wp2
        go_ret
        exact ⟨by rw [HR.out]; rfl, bl_al (bl_re w) _⟩

set_option maxRecDepth 100000 in
set_option maxHeartbeats 1000000 in
theorem rmencode_no (t r h f : Nat) (w : World) (hR : mRightB t r h f = false) :
    Calls Try.prog 12 #[metaV t r h f] w fun e w' => e = .returned (.tuple #[.string (mk []), .int .i64 40]) ∧ Below w.heap.size w w' := by
  have H := Lib.hid (fun w => rmright_any t r h f w)
  rw [hR] at H
  unfold metaV at H ⊢
  clear hR
  go_enter Try.func12, Try.ntmps12
  go_wp2_with fail
  refine (H.out _).mono ?_
  rintro e w1 ⟨rfl, hb1⟩
  go_wp2
  go_ret2
  exact ⟨rfl, (bl_al (bl_re w) _).trans (hb1.mono (by simp))⟩
end Go.Proofs.Ytdaoiimjflplhaa
