/- PageSizes: a page's bytes are 256, and tell its body; a disk's untouched page is none. Printed by wip/pagesizes.py. -/
import Derived.Test.YtmbjbckjfkijmaaLawP
import Derived.Test.YtmbjbckjfkijmaaPageR
namespace Go.Proofs.Ytmbjbckjfkijmaa
open Go.RowKit Go.Shelf
set_option linter.unusedVariables false

theorem rd_new (n j : Nat) (hj : j < n) : (Dk.new n).rd j = List.replicate 64 0 := by
  unfold Dk.rd Dk.new
  simp [Dk.over, hj]
theorem pg_new (n id : Nat) : ∀ k, 4 * id + k ≤ n → (Dk.new n).pg id k = List.replicate (64 * k) 0
  | 0, _ => rfl
  | k + 1, h => by
    rw [Dk.pg, pg_new n id k (by omega), rd_new n _ (by omega), List.replicate_append_replicate]
    rfl
theorem preadV_new (n id : Nat) (h : 4 * id + 4 ≤ n) : preadV (Dk.new n) id = .tuple #[pageZ, .int .i64 30] := by
  unfold preadV
  rw [pg_new n id 4 h, if_neg]
  rintro ⟨hb, _⟩
  have h3 := ((decB_iff _).1 hb).2.2.1
  have h4 := (rightB_iff _ _ _ _).1 h3
  have h5 : dKind (List.replicate (64 * 4) 0) = 0 := by unfold dKind; rfl
  rw [h5] at h4
  omega

set_option maxRecDepth 100000 in
set_option maxHeartbeats 8000000 in
theorem pageSizes_walk (k : Int) (i t : Nat) (s : ByteArray) (id : Nat) (w : World) (hk : -9223372036854775808 ≤ k ∧ k ≤ 9223372036854775807) (hi : i < 4294967296) (ht : t < 18446744073709551616) (hs : s.size ≤ maxLen) (hid : id < 4294967296) :
    Calls Try.prog 13 #[.agg #[.int .i64 k, .int .u32 i, .int .u64 t, .string s], .int .u32 id] w fun e w' => e = .returned (.bool true) ∧ Below w.heap.size w w' := by
  have H0 := Lib.hid (fun w => shown3_any w)
  have H1 := Lib.hid (fun w => small_any k i t s w hs)
  obtain ⟨b, hb⟩ : ∃ b, text250 s = b := ⟨_, rfl⟩
  have hbl : b.size ≤ 250 := by have := text250_size s; rw [hb] at this; omega
  rw [hb] at H1
  clear hb
  have hB := Blk.new w 60 #[.int .i64 k, .int .u32 (i : Int), .int .u64 (t : Int), .string s]
  have HB := Lib.hid hB
  clear hB
  have hidc : id < 2 ∨ 9 < id ∨ (2 ≤ id ∧ id ≤ 9) := by omega
  cases hr : rightB k i t b.size with
  | false =>
    have H2 := Lib.hid (fun W => encode_no k i t b W hk hi ht (by unfold maxLen; omega) hr)
    clear hr hk
    go_enter Try.func13, Try.ntmps13
    go_wp2_with fail
    refine (H0.out _).mono ?_
    rintro e w1 ⟨rfl, hb1⟩
    have b1 := HB.out.below hb1 (by simp)
    have c0 : w1.cell? ⟨w.heap.size, 0, none⟩ = some (.int .i64 k) := b1.cell 0
    have c1 : w1.cell? ⟨w.heap.size, 1, none⟩ = some (.int .u32 (i : Int)) := b1.cell 1
    have c2 : w1.cell? ⟨w.heap.size, 2, none⟩ = some (.int .u64 (t : Int)) := b1.cell 2
    have c3 : w1.cell? ⟨w.heap.size, 3, none⟩ = some (.string s) := b1.cell 3
    have G1 := Lib.hid (And.intro b1 ((bl_al (bl_re w) _).trans (hb1.mono (by simp))))
    clear b1 hb1
    go_wp2_with fail
    refine (H1.out _).mono ?_
    rintro e w2 ⟨rfl, hb2⟩
    have b2 := G1.out.1.below hb2 G1.out.1.lt
    have G2 := Lib.hid (And.intro b2 (bl_tr G1.out.2 hb2))
    have f0 := b2.frozen 0
    have f1 := b2.frozen 1
    have f2 := b2.frozen 2
    have f3 := b2.frozen 3
    have d0 : w2.cell? ⟨w.heap.size, 0, none⟩ = some (.int .i64 k) := b2.cell 0
    have d1 : w2.cell? ⟨w.heap.size, 1, none⟩ = some (.int .u32 (i : Int)) := b2.cell 1
    have d2 : w2.cell? ⟨w.heap.size, 2, none⟩ = some (.int .u64 (t : Int)) := b2.cell 2
    have d3 : w2.cell? ⟨w.heap.size, 3, none⟩ = some (.string s) := b2.cell 3
    clear b2 hb2 c0 c1 c2 c3
    go_wp2_with fail
    refine (H2.out (set4 w2 w.heap.size (.int .i64 k) (.int .u32 (i : Int)) (.int .u64 (t : Int)) (.string b))).mono ?_
    rintro e w3 ⟨rfl, hb3⟩
    have b3 := (G2.out.1.set4 (.int .i64 k) (.int .u32 (i : Int)) (.int .u64 (t : Int)) (.string b)).below hb3 (G2.out.1.set4 _ _ _ _).lt
    have c3 : w3.cell? ⟨w.heap.size, 3, none⟩ = some (.string b) := b3.cell 3
    have G3 := Lib.hid (bl_tr (below_set4 G2.out.2 (Nat.le_refl _) (.int .i64 k) (.int .u32 (i : Int)) (.int .u64 (t : Int)) (.string b)) hb3)
    clear b3 hb3 d0 d1 d2 d3 f0 f1 f2 f3
    go_wp2_with fail
    go_quiet (fail)
    clear c3
    rcases hidc with h | h | ⟨h, h2⟩
    · have e1 : decide ((id : Int) < 2) = true := decide_eq_true (by omega)
      go_wp2
      go_ret
      exact ⟨rfl, bl_dN G3.out _⟩
    · have e1 : decide ((id : Int) < 2) = false := decide_eq_false (by omega)
      have e2 : decide (9 < (id : Int)) = true := decide_eq_true (by omega)
      go_wp2
      go_ret
      exact ⟨rfl, bl_dN G3.out _⟩
    · have e1 : decide ((id : Int) < 2) = false := decide_eq_false (by omega)
      have e2 : decide (9 < (id : Int)) = false := decide_eq_false (by omega)
      have hnew := fun W : World => new_yes (fun k => W.heap.size ≤ k) 40 W (by omega) (by omega) fun k hk => hk
      rw [show ((40 : Nat) : Int) = 40 from rfl] at hnew
      have HNEW := Lib.hid hnew
      clear hnew
      go_wp2_with fail
      refine (HNEW.out _).mono ?_
      rintro e w4 ⟨g, rfl, _, hh4, hb4⟩
      have hr := pread_ok _ g _ id w4 hh4 (by omega) (by simp [Dk.new]; omega)
      rw [preadV_new 40 id (by omega)] at hr
      unfold pageZ at hr
      have HR := Lib.hid hr
      have G4 := Lib.hid (bl_tr (bl_dN G3.out _) hb4)
      clear hr hh4 hb4
      go_wp2_with fail
      refine HR.out.mono ?_
      rintro e w5 ⟨rfl, hb5⟩
      go_wp2
      go_ret
      exact ⟨rfl, bl_al (bl_tr G4.out hb5) _⟩
  | true =>
    have h3 := (rightB_iff _ _ _ _).1 hr
    obtain ⟨n, rfl⟩ : ∃ n : Nat, k = n := ⟨k.toNat, by omega⟩
    have h2 := fun W => encode_yes n i t b W (by omega) hi ht (by omega) hr
    have hzl := encL_length n i t b.data.toList (by rw [ba_length]; omega)
    obtain ⟨h4, h5, h6, h7, h8⟩ := dec_enc n i t b.data.toList (by omega) hi ht (by rw [ba_length]; omega)
    unfold dBody at h8
    rw [h7, ba_length] at h8
    obtain ⟨z, hz⟩ : ∃ z, mk (encL n i t b.data.toList) = z := ⟨_, rfl⟩
    have hzs : z.size = 256 := by rw [← hz, mk_size]; exact hzl
    have hzb : z.extract 15 (15 + b.size) = b := ba_ext (by rw [ext_list, ← hz, mk_toList]; exact h8)
    rw [hz] at h2
    have H2 := Lib.hid h2
    have hb237 : b.size ≤ 237 := by omega
    have hz1 : (z.size : Int) = 256 := by omega
    have e3 : IntKind.i64.wrap (15 + (b.size : Int)) = 15 + b.size := IntWalk.i64_in _ (by omega)
    have e9 : ∀ W, (Instr.slice 9 (.string z) (some (.int .i64 15)) (some (.int .i64 (15 + (b.size : Int)))) none).run Try.prog W = .ok (.string b) W := fun W => by
      rw [run_slice_string (h := Try.underlying9) (h0 := by omega) (h1 := by omega) (h2 := by omega), show (15 + (b.size : Int)).toNat = 15 + b.size by omega]
      exact congrArg (fun x => Result.ok (Value.string x) W) hzb
    clear h2 hz hzl hr h3 hk h4 h5 h6 h7 h8 hzs hzb
    go_enter Try.func13, Try.ntmps13
    go_wp2_with fail
    refine (H0.out _).mono ?_
    rintro e w1 ⟨rfl, hb1⟩
    have b1 := HB.out.below hb1 (by simp)
    have c0 : w1.cell? ⟨w.heap.size, 0, none⟩ = some (.int .i64 (n : Int)) := b1.cell 0
    have c1 : w1.cell? ⟨w.heap.size, 1, none⟩ = some (.int .u32 (i : Int)) := b1.cell 1
    have c2 : w1.cell? ⟨w.heap.size, 2, none⟩ = some (.int .u64 (t : Int)) := b1.cell 2
    have c3 : w1.cell? ⟨w.heap.size, 3, none⟩ = some (.string s) := b1.cell 3
    have G1 := Lib.hid (And.intro b1 ((bl_al (bl_re w) _).trans (hb1.mono (by simp))))
    clear b1 hb1
    go_wp2_with fail
    refine (H1.out _).mono ?_
    rintro e w2 ⟨rfl, hb2⟩
    have b2 := G1.out.1.below hb2 G1.out.1.lt
    have G2 := Lib.hid (And.intro b2 (bl_tr G1.out.2 hb2))
    have f0 := b2.frozen 0
    have f1 := b2.frozen 1
    have f2 := b2.frozen 2
    have f3 := b2.frozen 3
    have d0 : w2.cell? ⟨w.heap.size, 0, none⟩ = some (.int .i64 (n : Int)) := b2.cell 0
    have d1 : w2.cell? ⟨w.heap.size, 1, none⟩ = some (.int .u32 (i : Int)) := b2.cell 1
    have d2 : w2.cell? ⟨w.heap.size, 2, none⟩ = some (.int .u64 (t : Int)) := b2.cell 2
    have d3 : w2.cell? ⟨w.heap.size, 3, none⟩ = some (.string s) := b2.cell 3
    clear b2 hb2 c0 c1 c2 c3
    go_wp2_with fail
    refine (H2.out (set4 w2 w.heap.size (.int .i64 (n : Int)) (.int .u32 (i : Int)) (.int .u64 (t : Int)) (.string b))).mono ?_
    rintro e w3 ⟨rfl, hb3⟩
    have b3 := (G2.out.1.set4 (.int .i64 (n : Int)) (.int .u32 (i : Int)) (.int .u64 (t : Int)) (.string b)).below hb3 (G2.out.1.set4 _ _ _ _).lt
    have c3 : w3.cell? ⟨w.heap.size, 3, none⟩ = some (.string b) := b3.cell 3
    have G3 := Lib.hid (bl_tr (below_set4 G2.out.2 (Nat.le_refl _) (.int .i64 (n : Int)) (.int .u32 (i : Int)) (.int .u64 (t : Int)) (.string b)) hb3)
    clear b3 hb3 d0 d1 d2 d3 f0 f1 f2 f3
    go_wp2_with fail
    go_quiet (fail)
    clear c3
    rcases hidc with h | h | ⟨h, h2⟩
    · have e1 : decide ((id : Int) < 2) = true := decide_eq_true (by omega)
      go_wp2
      go_ret
      exact ⟨rfl, bl_dN G3.out _⟩
    · have e1 : decide ((id : Int) < 2) = false := decide_eq_false (by omega)
      have e2 : decide (9 < (id : Int)) = true := decide_eq_true (by omega)
      go_wp2
      go_ret
      exact ⟨rfl, bl_dN G3.out _⟩
    · have e1 : decide ((id : Int) < 2) = false := decide_eq_false (by omega)
      have e2 : decide (9 < (id : Int)) = false := decide_eq_false (by omega)
      have hnew := fun W : World => new_yes (fun k => W.heap.size ≤ k) 40 W (by omega) (by omega) fun k hk => hk
      rw [show ((40 : Nat) : Int) = 40 from rfl] at hnew
      have HNEW := Lib.hid hnew
      clear hnew
      go_wp2_with fail
      refine (HNEW.out _).mono ?_
      rintro e w4 ⟨g, rfl, _, hh4, hb4⟩
      have hr := pread_ok _ g _ id w4 hh4 (by omega) (by simp [Dk.new]; omega)
      rw [preadV_new 40 id (by omega)] at hr
      unfold pageZ at hr
      have HR := Lib.hid hr
      have G4 := Lib.hid (bl_tr (bl_dN G3.out _) hb4)
      clear hr hh4 hb4
      go_wp2_with fail
      refine HR.out.mono ?_
      rintro e w5 ⟨rfl, hb5⟩
      go_wp2
      go_ret
      exact ⟨rfl, bl_al (bl_tr G4.out hb5) _⟩
end Go.Proofs.Ytmbjbckjfkijmaa
