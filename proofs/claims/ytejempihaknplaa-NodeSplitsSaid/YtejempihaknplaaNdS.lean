/- isSize and rise of package node, as plain lists. Condition: at most a million elements. isBranch of package node, and what it calls: is a node a right branch. Whatever lay lies as it lay. No condition. -/
import Derived.Test.YtejempihaknplaaNdM
import Derived.Test.YtejempihaknplaaGA
import Derived.Lib.Hide
namespace Go.Proofs.Ytejempihaknplaa.G
open Go.RowKit Go.Proofs.YtejempihaknplaaW.PrintWords

theorem w_add (i : Nat) (h : i ≤ 1000000) : wrap64 ((i : Int) + 1) = ((i + 1 : Nat) : Int) := by unfold wrap64; omega
theorem w_sub (i : Nat) (h : i ≤ 1000000) (h0 : 1 ≤ i) : wrap64 ((i : Int) - 1) = ((i - 1 : Nat) : Int) := by unfold wrap64; omega
theorem w_half (i j : Nat) (h : i ≤ 1000000) (h2 : j ≤ 1000000) : wrap64 ((IntKind.u64.wrap (wrap64 ((i : Int) + (j : Int)))) / 2) = (((i + j) / 2 : Nat) : Int) := by
  have h1 : wrap64 ((i : Int) + (j : Int)) = ((i + j : Nat) : Int) := by unfold wrap64; omega
  have h3 : IntKind.u64.wrap ((i + j : Nat) : Int) = ((i + j : Nat) : Int) := IntWalk.u64_in _ (by omega)
  rw [h1, h3]
  unfold wrap64
  omega
theorem rdOf_nat (l : List ByteArray) (i : Nat) (h : i < l.length) : rdOf ByteArray.empty l (i : Int) = l[i] := by
  unfold rdOf
  rw [Int.toNat_natCast, List.getD_eq_getElem?_getD, List.getElem?_eq_getElem h]
  rfl
theorem rdT_nat (l : List S39) (i : Nat) (h : i < l.length) : rd_T39 l (i : Int) = l[i] := by
  unfold rd_T39
  rw [Int.toNat_natCast, List.getD_eq_getElem?_getD, List.getElem?_eq_getElem h]
  rfl

/-! ### isSize -/
def inB (a b : Int) (s : ByteArray) : Bool := decide (a ≤ (s.size : Int)) && decide ((s.size : Int) ≤ b)
theorem isSize_l0 (a b : Int) (l : List ByteArray) (hl : l.length ≤ 1000000) : ∀ (d k i : Nat), i + d = l.length → d < k → node_isSize.l0 k a b l (l.length : Int) (i : Int) = some ((l.drop i).all (inB a b))
  | 0, k, i, h, hk => by
    obtain ⟨k, rfl⟩ : ∃ m, k = m + 1 := ⟨k - 1, by omega⟩
    simp only [node_isSize.l0]
    rw [if_neg (by omega), List.drop_of_length_le (by omega)]
    rfl
  | d + 1, k, i, h, hk => by
    obtain ⟨k, rfl⟩ : ∃ m, k = m + 1 := ⟨k - 1, by omega⟩
    have ih := isSize_l0 a b l hl d k (i + 1) (by omega) (by omega)
    have hi : i < l.length := by omega
    simp only [node_isSize.l0]
    rw [if_pos (by omega), if_pos (by omega), if_pos (by omega), rdOf_nat l i hi, w_add i (by omega), ih, List.drop_eq_getElem_cons hi, List.all_cons]
    by_cases h1 : (l[i].size : Int) < a
    · rw [if_pos h1]
      simp [inB, show ¬ a ≤ (l[i].size : Int) by omega]
    · rw [if_neg h1]
      by_cases h2 : (l[i].size : Int) > b
      · rw [if_pos h2]
        simp [inB, show ¬ (l[i].size : Int) ≤ b by omega]
      · rw [if_neg h2]
        simp [inB, show a ≤ (l[i].size : Int) by omega, show (l[i].size : Int) ≤ b by omega]
theorem isSize_eq (a b : Int) (l : List ByteArray) (hl : l.length ≤ 1000000) (k : Nat) (hk : l.length < k) : node_isSize.f k a b l = some (l.all (inB a b)) := by
  unfold node_isSize.f
  have := isSize_l0 a b l hl l.length k 0 (by omega) hk
  rw [List.drop_zero] at this
  exact this
theorem inB_key (s : ByteArray) : inB 1 24 s = kOk s := by
  unfold inB kOk
  rw [Bool.eq_iff_iff]
  simp
  omega
theorem inB_value (s : ByteArray) : inB 0 60 s = decide (s.size ≤ 60) := by
  unfold inB
  rw [Bool.eq_iff_iff]
  simp
  omega

/-! ### rise -/
theorem rises_step (a : ByteArray) (l : List ByteArray) : ∀ x, l.head? = some x → risesB (a :: l) = (blt a x && risesB l) := by
  intro x hx
  cases l with
  | nil => cases hx
  | cons y r => cases hx; rfl
theorem rise_l0 (l : List ByteArray) (hl : l.length ≤ 1000000) : ∀ (d k i : Nat), 1 ≤ i → i + d = l.length → d < k → node_rise.l0 k l (i : Int) = some (risesB (l.drop (i - 1)))
  | 0, k, i, h1, h, hk => by
    obtain ⟨k, rfl⟩ : ∃ m, k = m + 1 := ⟨k - 1, by omega⟩
    simp only [node_rise.l0]
    rw [if_neg (by omega), List.drop_eq_getElem_cons (by omega : i - 1 < l.length), List.drop_of_length_le (by omega)]
    rfl
  | d + 1, k, i, h1, h, hk => by
    obtain ⟨k, rfl⟩ : ∃ m, k = m + 1 := ⟨k - 1, by omega⟩
    have ih := rise_l0 l hl d k (i + 1) (by omega) (by omega) (by omega)
    have hi : i < l.length := by omega
    have hi2 : i - 1 < l.length := by omega
    simp only [node_rise.l0]
    rw [if_pos (by omega), w_sub i (by omega) h1, if_pos (by omega), if_pos (by omega), if_pos (by omega), rdOf_nat l i hi, rdOf_nat l (i - 1) hi2, w_add i (by omega), ih, List.drop_eq_getElem_cons hi2,
      rises_step _ _ l[i] (by rw [List.head?_drop]; rw [show i - 1 + 1 = i by omega]; exact List.getElem?_eq_getElem hi)]
    rw [show i + 1 - 1 = i - 1 + 1 by omega]
    change (if blt l[i - 1] l[i] = true then _ else _) = _
    cases hb : blt l[i - 1] l[i] <;> simp
theorem rise_eq (l : List ByteArray) (hl : l.length ≤ 1000000) (k : Nat) (hk : l.length < k) : node_rise.f k l = some (risesB l) := by
  unfold node_rise.f
  cases l with
  | nil =>
    obtain ⟨k, rfl⟩ : ∃ m, k = m + 1 := ⟨k - 1, by omega⟩
    simp [node_rise.l0, risesB]
  | cons a r =>
    have := rise_l0 (a :: r) hl r.length k 1 (by omega) (by simp; omega) (by simp at hk; omega)
    simpa using this

end Go.Proofs.Ytejempihaknplaa.G

namespace Go.Proofs.Ytejempihaknplaa.G
open Go.RowKit Go.Proofs.YtejempihaknplaaW.PrintWords Go.Proofs.YtejempihaknplaaW.PrintLast Go.Proofs.YtejempihaknplaaW.PrintMore
set_option linter.unusedVariables false

set_option maxHeartbeats 400000 in
theorem isKid_any (k : Int) (w : World) : Calls Try.prog 66 #[.int .u32 k] w fun e w' => e = .returned (.bool (kidOk k)) ∧ w = w' := by
  by_cases h1 : 2 ≤ k
  · by_cases h2 : k < 16384
    · have e : kidOk k = true := by simp [kidOk, h1, h2]
      rw [e]
      go_enter Try.func66, Try.ntmps66
      go_wp2
      go_ret
      exact ⟨rfl, rfl⟩
    · have e : kidOk k = false := by simp [kidOk, h2]
      rw [e]
      go_enter Try.func66, Try.ntmps66
      go_wp2
      go_ret
      exact ⟨rfl, rfl⟩
  · have e : kidOk k = false := by simp [kidOk, h1]
    rw [e]
    go_enter Try.func66, Try.ntmps66
    go_wp2
    go_ret
    exact ⟨rfl, rfl⟩
set_option maxHeartbeats 400000 in
theorem noKid_any (k : Int) (w : World) : Calls Try.prog 65 #[.int .u32 k] w fun e w' => e = .returned (.bool (!kidOk k)) ∧ w = w' := by
  go_enter Try.func65, Try.ntmps65
  go_wp2_with fail
  refine (isKid_any k _).mono ?_
  rintro e w1 ⟨rfl, rfl⟩
  go_wp2
  go_ret
  exact ⟨rfl, rfl⟩

theorem rd_nat (l : List Int) (k : Nat) (h : k < l.length) : rd l (k : Int) = l[k] := by
  unfold rd
  rw [Int.toNat_natCast, List.getD_eq_getElem?_getD, List.getElem?_eq_getElem h]
  rfl
theorem take_all_snoc {α : Type} (l : List α) (p : α → Bool) (k : Nat) (h : k < l.length) : (l.take (k + 1)).all p = ((l.take k).all p && p l[k]) := by
  rw [List.take_succ_eq_append_getElem h, List.all_append]
  simp
set_option maxHeartbeats 1000000 in
theorem idxKids_any (A : Option Addr) (c : Nat) (l : List Int) (w : World) (hr : Kd.C (Kd.int .u32) w A l.length l) :
    Calls Try.prog 77 #[.slice A l.length c, .func (.func 65) #[] #[]] w fun e w' => (∃ n : Int, e = .returned (.int .i64 n) ∧ decide (0 ≤ n) = !l.all kidOk) ∧ w = w' := by
  have hlen := hr.2.1
  have HR := Lib.hid hr
  clear hr
  go_enter Try.func77, Try.ntmps77
  go_wp2
  go_loop [8] (fun i => ∃ k : Nat, k ≤ l.length ∧ i = .int .i64 k ∧ Hid ((l.take k).all kidOk = true)) (fun i => l.length - (intOf i).toNat)
  case atStart => exact ⟨0, Nat.zero_le _, rfl, Lib.hid rfl⟩
  case round =>
    obtain ⟨k, hk, rfl, HK⟩ := hrel
    by_cases hlt : k < l.length
    · obtain ⟨ad, rfl, hx⟩ := Kd.at_int HR.out (k : Int) (by omega) (by omega)
      rw [rd_nat l k hlt, Int.toNat_natCast] at hx
      have hs := take_all_snoc l kidOk k hlt
      obtain ⟨x, hxx⟩ : ∃ x, l[k] = x := ⟨_, rfl⟩
      rw [hxx] at hx hs
      have hdrop : kidOk x = false → l.all kidOk = false := by
        intro h
        rw [← hxx] at h
        rw [Bool.eq_false_iff]
        intro ha
        rw [List.all_eq_true.1 ha _ (List.getElem_mem hlt)] at h
        cases h
      have HD := Lib.hid hdrop
      have HS := Lib.hid hs
      have HC := Lib.hid (noKid_any x)
      clear hdrop hs hxx
      cases hb : kidOk x with
      | true =>
        rw [hb] at HC
        have HB := Lib.hid hb
        clear hb
        go_wp2_with (go_at_call 65; refine (HC.out _).mono ?_; rintro e w1 ⟨rfl, rfl⟩)
        go_round
        case rel => exact ⟨k + 1, by omega, by go_num, Lib.hid (by rw [HS.out, HK.out, HB.out]; rfl)⟩
        case measure => simp [intOf]; omega
      | false =>
        rw [hb] at HC
        have HB := Lib.hid hb
        clear hb
        go_wp2_with (go_at_call 65; refine (HC.out _).mono ?_; rintro e w1 ⟨rfl, rfl⟩)
        go_ret
        exact ⟨⟨k, rfl, by rw [HD.out HB.out]; simp⟩, rfl⟩
    · have hkl : k = l.length := by omega
      subst hkl
      have hall := HK.out
      rw [List.take_length] at hall
      have HA := Lib.hid hall
      clear hall
      go_wp2
      go_ret
      exact ⟨⟨-1, rfl, by rw [HA.out]; rfl⟩, rfl⟩

set_option maxHeartbeats 400000 in
theorem anyKid_any (A : Option Addr) (c : Nat) (l : List Int) (w : World) (hr : Kd.C (Kd.int .u32) w A l.length l) :
    Calls Try.prog 64 #[.slice A l.length c, .func (.func 65) #[] #[]] w fun e w' => e = .returned (.bool (!l.all kidOk)) ∧ w = w' := by
  have HI := Lib.hid (idxKids_any A c l w hr)
  clear hr
  go_enter Try.func64, Try.ntmps64
  go_wp2_with fail
  refine HI.out.mono ?_
  rintro e w1 ⟨⟨n, rfl, hn⟩, rfl⟩
  have HN := Lib.hid hn
  clear hn
  go_wp2
  go_ret
  exact ⟨by rw [← HN.out]; rfl, rfl⟩

section
variable (A0_0 : Option Addr) (c0_0 : Nat) (l0_0 : List S39) (A0_1 : Option Addr) (c0_1 : Nat) (l0_1 : List ByteArray) (A0_2 : Option Addr) (c0_2 : Nat) (l0_2 : List Int) (w : World)
set_option maxHeartbeats 1000000 in
theorem isBranch_early (h0 : l0_0.length ≤ 9223372036854775807) (h1 : l0_1.length ≤ 9223372036854775807) (h2 : l0_2.length ≤ 9223372036854775807) (h : ¬ (l0_0.length = 0 ∧ 1 ≤ l0_2.length ∧ l0_2.length ≤ 255 ∧ l0_1.length + 1 = l0_2.length)) :
    Calls Try.prog 39 #[.agg #[.slice A0_0 l0_0.length c0_0, .slice A0_1 l0_1.length c0_1, .slice A0_2 l0_2.length c0_2]] w fun e w' => e = .returned (.bool false) ∧ Below w.heap.size w w' := by
  by_cases g0 : 0 < l0_0.length
  · clear h h1 h2
    go_enter Try.func39, Try.ntmps39
    go_wp2
    go_ret
    exact ⟨rfl, (Below.refl _ _).alloc (Nat.le_refl _) _⟩
  · by_cases g2 : 0 < l0_2.length
    · have n2 : ¬ l0_2 = [] := by intro e; rw [e] at g2; simp at g2
      by_cases g3 : 255 < l0_2.length
      · have g4 : (255 : Int) < (l0_2.length : Int) := by omega
        clear h h1
        go_enter Try.func39, Try.ntmps39
        go_wp2
        go_ret
        exact ⟨rfl, (Below.refl _ _).alloc (Nat.le_refl _) _⟩
      · have d : (wrap64 ((l0_1.length : Int) + 1) != (l0_2.length : Int)) = true := by
          rw [bne_iff_ne]
          unfold wrap64
          omega
        have g3' : ¬ (255 : Int) < (l0_2.length : Int) := by omega
        clear h g3 h0 h1 h2
        go_enter Try.func39, Try.ntmps39
        go_wp2
        go_ret
        exact ⟨rfl, (Below.refl _ _).alloc (Nat.le_refl _) _⟩
    · have d : l0_2 = [] := List.eq_nil_of_length_eq_zero (by omega)
      clear h h1 h2 g2
      go_enter Try.func39, Try.ntmps39
      go_wp2
      go_ret
      exact ⟨rfl, (Below.refl _ _).alloc (Nat.le_refl _) _⟩

set_option maxHeartbeats 2000000 in
theorem isBranch_late (hr1 : Kd.C Kd.string w A0_1 l0_1.length l0_1) (hc1 : l0_1.length ≤ c0_1) (hr2 : Kd.C (Kd.int .u32) w A0_2 l0_2.length l0_2) (h : l0_0.length = 0 ∧ 1 ≤ l0_2.length ∧ l0_2.length ≤ 255 ∧ l0_1.length + 1 = l0_2.length) :
    Calls Try.prog 39 #[.agg #[.slice A0_0 l0_0.length c0_0, .slice A0_1 l0_1.length c0_1, .slice A0_2 l0_2.length c0_2]] w fun e w' => e = .returned (.bool (l0_2.all kidOk && l0_1.all kOk && risesB l0_1)) ∧ Below w.heap.size w w' := by
  obtain ⟨g0, g1, g2, g3⟩ := h
  rw [g0]
  have n1 : ¬ l0_2 = [] := by intro e; rw [e] at g1; simp at g1
  have n2 : ¬ (255 : Int) < (l0_2.length : Int) := by omega
  have n3 : (wrap64 ((l0_1.length : Int) + 1) != (l0_2.length : Int)) = false := by
    rw [bne_eq_false_iff_eq]
    unfold wrap64
    omega
  have n4 : ((l0_1.length : Int) + 1 != (l0_2.length : Int)) = false := by
    rw [bne_eq_false_iff_eq]
    omega
  have b0 := (Below.refl w.heap.size w).alloc (Nat.le_refl _) (.cells #[.slice A0_0 0 c0_0, .slice A0_1 l0_1.length c0_1, .slice A0_2 l0_2.length c0_2] 26)
  have HA := Lib.hid (fun W => fun hb : Below w.heap.size w W => anyKid_any A0_2 c0_2 l0_2 W (Kd.C_below hr2 hb))
  have HS := Lib.hid (fun W => fun hb : Below w.heap.size w W => node_isSize.calls (l0_1.length + 1) 1 24 A0_1 c0_1 l0_1 _ W (Kd.C_below hr1 hb) hc1 (isSize_eq 1 24 l0_1 (by omega) _ (by omega)))
  have HR := Lib.hid (fun W => fun hb : Below w.heap.size w W => node_rise.calls (l0_1.length + 1) A0_1 c0_1 l0_1 _ W (Kd.C_below hr1 hb) hc1 (rise_eq l0_1 (by omega) _ (by omega)))
  rw [show inB 1 24 = kOk from funext inB_key] at HS
  have HB0 := Lib.hid b0
  have e4 : (1 : Int) ≤ (l0_2.length : Int) := by omega
  clear hr1 hr2 hc1 b0 g0 g1 g2 g3
  cases c1 : l0_2.all kidOk with
  | false =>
    rw [c1] at HA
    clear c1 HS HR
    go_enter Try.func39, Try.ntmps39
    go_wp2_with fail
    refine (HA.out _ HB0.out).mono ?_
    rintro e w1 ⟨rfl, rfl⟩
    go_wp2
    go_ret
    exact ⟨rfl, HB0.out⟩
  | true =>
    rw [c1] at HA
    clear c1
    cases c2 : l0_1.all kOk with
    | false =>
      rw [c2] at HS
      clear c2 HR
      go_enter Try.func39, Try.ntmps39
      go_wp2_with fail
      refine (HA.out _ HB0.out).mono ?_
      rintro e w1 ⟨rfl, rfl⟩
      go_wp2_with fail
      refine (HS.out _ HB0.out).mono ?_
      rintro e w2 ⟨rfl, ⟨n, rfl⟩⟩
      go_wp2
      go_ret
      exact ⟨rfl, pw_below_drewN HB0.out _⟩
    | true =>
      rw [c2] at HS
      clear c2
      go_enter Try.func39, Try.ntmps39
      go_wp2_with fail
      refine (HA.out _ HB0.out).mono ?_
      rintro e w1 ⟨rfl, rfl⟩
      go_wp2_with fail
      refine (HS.out _ HB0.out).mono ?_
      rintro e w2 ⟨rfl, ⟨n, rfl⟩⟩
      go_wp2_with fail
      refine (HR.out _ (pw_below_drewN HB0.out _)).mono ?_
      rintro e w3 ⟨rfl, ⟨m, rfl⟩⟩
      go_wp2
      go_ret
      exact ⟨rfl, pw_below_drewN HB0.out _⟩

end
theorem node_isBranch.calls (A0_0 : Option Addr) (c0_0 : Nat) (l0_0 : List S39) (A0_1 : Option Addr) (c0_1 : Nat) (l0_1 : List ByteArray) (A0_2 : Option Addr) (c0_2 : Nat) (l0_2 : List Int) (r : Bool) (w : World) (hr0_0 : Kd.C k39 w A0_0 l0_0.length l0_0) (hc0_0 : l0_0.length ≤ c0_0) (hr0_1 : Kd.C Kd.string w A0_1 l0_1.length l0_1) (hc0_1 : l0_1.length ≤ c0_1) (hr0_2 : Kd.C (Kd.int .u32) w A0_2 l0_2.length l0_2) (hc0_2 : l0_2.length ≤ c0_2) (h : node_isBranch.f l0_0 l0_1 l0_2 = some r) :
    Calls Try.prog 39 #[.agg #[.slice A0_0 l0_0.length c0_0, .slice A0_1 l0_1.length c0_1, .slice A0_2 l0_2.length c0_2]] w fun e w' => e = .returned (.bool r) ∧ Below w.heap.size w w' := by
  obtain rfl := Option.some.inj h
  by_cases g : l0_0.length = 0 ∧ 1 ≤ l0_2.length ∧ l0_2.length ≤ 255 ∧ l0_1.length + 1 = l0_2.length
  · have e : branchB l0_0 l0_1 l0_2 = (l0_2.all kidOk && l0_1.all kOk && risesB l0_1) := by
      unfold branchB
      rw [List.eq_nil_of_length_eq_zero g.1]
      simp [g.2.1, g.2.2.1, g.2.2.2]
    rw [e]
    exact isBranch_late A0_0 c0_0 l0_0 A0_1 c0_1 l0_1 A0_2 c0_2 l0_2 w hr0_1 hc0_1 hr0_2 g
  · have e : branchB l0_0 l0_1 l0_2 = false := by
      rw [Bool.eq_false_iff]
      intro hb
      simp only [branchB, Bool.and_eq_true, decide_eq_true_eq, List.isEmpty_iff] at hb
      obtain ⟨⟨⟨⟨⟨⟨h1, h2⟩, h3⟩, h4⟩, _⟩, _⟩, _⟩ := hb
      exact g ⟨by rw [h1]; rfl, h2, h3, h4⟩
    rw [e]
    exact isBranch_early A0_0 c0_0 l0_0 A0_1 c0_1 l0_1 A0_2 c0_2 l0_2 w hr0_0.2.1 hr0_1.2.1 hr0_2.2.1 g
end Go.Proofs.Ytejempihaknplaa.G
