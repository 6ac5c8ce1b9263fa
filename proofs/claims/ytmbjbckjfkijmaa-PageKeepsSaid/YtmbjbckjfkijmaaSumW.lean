/- The functions of package sum: what each call returns, and that it leaves whatever lay as it lay. No condition but that a text's length is a length. -/
import Derived.Test.YtmbjbckjfkijmaaProg
import Derived.Test.YtmbjbckjfkijmaaBase
import Derived.Test.YtmbjbckjfkijmaaSumM
namespace Go.Proofs.Ytmbjbckjfkijmaa
open Go.RowKit Go.Shelf
attribute [local go_sem] Oper.semAt_some

theorem info_u64 : (Try.prog.info? 58).map (fun i => (i.zero, i.size, i.bytes)) = some (some (.int .u64 0), 1, 8) := by kernel_rfl
theorem cells_u64 : Try.prog.cellsOf 58 = 1 := by kernel_rfl

/-- A pair's two cells. -/
def prs (p : Nat × Nat) : Array Value := #[.int .u64 (p.1 : Int), .int .u64 (p.2 : Int)]

set_option maxHeartbeats 400000 in
theorem joined_any (a b : Nat) (w : World) (ha : a < 281474976710656) (hb : b < 281474976710656) :
    Calls Try.prog 77 #[.agg #[.int .u64 a, .int .u64 b]] w fun e w' => e = .returned (.int .u32 (Sm.pack (a % 65521, b % 65521) : Nat)) ∧ Below w.heap.size w w' := by
  have hj := u64_join16 (a % 65521) (b % 65521) (by omega) (by omega)
  have hl : (b % 65521) * 65536 + a % 65521 < 4294967296 := by omega
  simp only [Int.natCast_mul, Int.natCast_add, Int.natCast_emod, Int.cast_ofNat_Int] at hj
  go_enter Try.func77, Try.ntmps77
  go_wp2
  go_ret
  refine ⟨ret_int ?_, (Below.refl _ _).alloc (Nat.le_refl _) _⟩
  simp only [Sm.pack]
  omega

set_option maxHeartbeats 400000 in
theorem parted_any (n : Nat) (w : World) (hn : n < 4294967296) :
    Calls Try.prog 75 #[.int .u32 n] w fun e w' => e = .returned (.tuple #[.agg #[.int .u64 (n % 65536 : Nat), .int .u64 (n / 65536 : Nat)], .bool (Sm.okS n)]) ∧ Below w.heap.size w w' := by
  have hb := u32_mask16 n hn
  have h1 : (n % 65536 : Nat) < 65536 := by omega
  have h2 : (n / 65536 : Nat) < 65536 := by omega
  obtain ⟨i0, hi, hz0, hz1, hz2⟩ := info_parts info_u64
  have heq := fun (w : World) (a b c d : Int) => run_eql_pair (P := Try.prog) (w := w) (t := 129) Try.underlying129 Try.underlying58 hi cells_u64 a b c d
  go_enter Try.func75, Try.ntmps75
  go_wp2
  go_region
  go_wp2
  have hok : ((n : Int) % 65536 == (n : Int) % 65536 % 65521 && (n : Int) / 65536 == (n : Int) / 65536 % 65521) = Sm.okS n := by
    rw [Bool.eq_iff_iff, Sm.okS_iff]
    simp only [Bool.and_eq_true, beq_iff_eq]
    omega
  exact bodyPost_ret (v := .tuple #[.agg #[.int .u64 (n % 65536 : Nat), .int .u64 (n / 65536 : Nat)], .bool (Sm.okS n)]) (by simp [results, Try.results75, go_sem, hok]) rfl
    ⟨rfl, (((Below.refl _ _).alloc (Nat.le_refl _) _).alloc (by simp) _).drew⟩

set_option maxHeartbeats 400000 in
theorem steps_any (a b : Nat) (s : ByteArray) (w : World) :
    Calls Try.prog 76 #[.agg #[.int .u64 a, .int .u64 b], .string s] w fun e w' =>
      e = .returned (.func (.func 81) #[] #[.pointer (some ⟨w.heap.size + 1, 0, none⟩), .pointer (some ⟨w.heap.size, 0, none⟩)]) ∧
      (w.alloc (.cells #[.int .u64 a, .int .u64 b] 129)).alloc (.cells #[.string s] 9) = w' := by
  go_enter Try.func76, Try.ntmps76
  go_wp2
  go_ret
  exact ⟨rfl, rfl⟩

set_option maxRecDepth 100000 in
set_option maxHeartbeats 2000000 in
theorem steps1_in (m l Bp Bs a b : Nat) (s : ByteArray) (hs : s.size ≤ maxLen) (ha : a < 65521) (hb : b < 65521) (hne : Bs ≠ Bp) (J : Nat → World → Prop)
    (hJs : ∀ k W i v, J k W → J k (W.setCell ⟨Bp, i, none⟩ v)) (hJd : ∀ k W, J k W → J k W.drew)
    (hY : ∀ k W, k < s.size → J k W → Blk W Bp 129 (prs (Sm.adl (a, b) (s.data.toList.take (k + 1)))) → Blk W Bs 9 #[.string s] →
      YieldAt Fence.wide (m - 1) Try.prog l #[.agg (prs (Sm.adl (a, b) (s.data.toList.take (k + 1))))] W fun e W' =>
        e = .returned (.bool true) ∧ J (k + 1) W' ∧ Blk W' Bp 129 (prs (Sm.adl (a, b) (s.data.toList.take (k + 1)))) ∧ Blk W' Bs 9 #[.string s])
    (W : World) (h0 : J 0 W) (hBp : Blk W Bp 129 (prs (a, b))) (hBs : Blk W Bs 9 #[.string s]) :
    CallsIn Fence.wide m Try.prog 81 #[.func (.yield l) #[] #[], .pointer (some ⟨Bs, 0, none⟩), .pointer (some ⟨Bp, 0, none⟩)] W fun e W' => (∃ v, e = .returned v) ∧ J s.size W' := by
  unfold maxLen at hs
  have hBs0 : W.cell? ⟨Bs, 0, none⟩ = some (.string s) := hBs.cell 0
  refine callsIn_of_wp Try.func81 rfl trivial ?_ rfl
  simp only [Try.ntmps81, List.size_toArray, List.length_cons, List.length_nil, Nat.reduceAdd, Nat.reduceSub, Array.replicate_succ, Array.replicate_zero, List.push_toArray, List.append_toArray, List.nil_append, List.cons_append]
  gi_wp2
  gi_loopw [7] (fun i wr => ∃ k : Nat, k ≤ s.size ∧ i = .int .i64 k ∧ J k wr ∧ Blk wr Bp 129 (prs (Sm.adl (a, b) (s.data.toList.take k))) ∧ Blk wr Bs 9 #[.string s])
    (fun i _ => s.size - (intOf i).toNat)
  case atStart => exact ⟨0, Nat.zero_le _, rfl, h0, hBp, hBs⟩
  case round =>
    obtain ⟨k, hk, rfl, hJk, hP, hS⟩ := hrel
    clear hBs0
    have hS0 : wr.cell? ⟨Bs, 0, none⟩ = some (.string s) := hS.cell 0
    by_cases hlt : k < s.size
    · have hst := Sm.adl_snoc (a, b) (s.data.toList.take k) s[k]
      rw [← Sm.take_snoc s k hlt] at hst
      have hlt1 := Sm.adl_lt (a, b) (s.data.toList.take k) ha hb
      have HY := hY k
      clear hY
      obtain ⟨q, hqe⟩ : ∃ q, Sm.adl (a, b) (s.data.toList.take (k + 1)) = q := ⟨_, rfl⟩
      rw [hqe] at HY hst
      have HE := Lib.hid hqe
      clear hqe
      generalize Sm.adl (a, b) (s.data.toList.take k) = p at *
      obtain ⟨x, y⟩ := p
      simp only [Sm.stp] at hst hlt1
      obtain ⟨hx, hy⟩ := hlt1
      have hP0 : wr.cell? ⟨Bp, 0, none⟩ = some (.int .u64 (x : Int)) := hP.cell 0
      have hP1 : wr.cell? ⟨Bp, 1, none⟩ = some (.int .u64 (y : Int)) := hP.cell 1
      have hf0 := hP.frozen 0
      have hf1 := hP.frozen 1
      have HQ := Lib.hid hst
      clear hst
      have hbd : (s[k].toNat : Int) < 256 := by have := s[k].toNat_lt; omega
      have hq : prs q = #[.int .u64 (((x : Int) + (s[k].toNat : Int)) % 65521), .int .u64 (((y : Int) + ((x : Int) + (s[k].toNat : Int))) % 65521)] := by rw [HQ.out]; simp [prs]
      rw [hq] at HY
      have HQ2 := Lib.hid hq
      clear hq
      gi_wp2
      gi_region
      gi_wp2
      have hb1 := (((hP.set_ 0 (.int .u64 (((x : Int) + (s[k].toNat : Int)) % 65521))).set_ 1 (.int .u64 (((y : Int) + ((x : Int) + (s[k].toNat : Int))) % 65521))).drew)
      have hb2 := (((hS.far (p := ⟨Bp, 0, none⟩) hne (.int .u64 (((x : Int) + (s[k].toNat : Int)) % 65521))).far (p := ⟨Bp, 1, none⟩) hne (.int .u64 (((y : Int) + ((x : Int) + (s[k].toNat : Int))) % 65521))).drew)
      obtain ⟨fn, tmps, assign, body, hy, hR⟩ := HY _ hlt (hJd _ _ (hJs _ _ 1 (.int .u64 (((y : Int) + ((x : Int) + (s[k].toNat : Int))) % 65521)) (hJs _ _ 0 (.int .u64 (((x : Int) + (s[k].toNat : Int)) % 65521)) hJk))) hb1 hb2
      clear HY hb1 hb2 hP hS
      rw [hy, Oper.uponIn_round]
      refine ⟨fun h => (by cases h), hR.mono ?_⟩
      clear hy
      rintro e W3 ⟨rfl, hJ3, hP3, hS3⟩
      gi_wp2
      go_roundw
      case rel => exact ⟨k + 1, by omega, by go_num, hJ3, by rw [HE.out, HQ2.out]; exact hP3, hS3⟩
      case measure => simp [intOf]; omega
    · obtain rfl : k = s.size := by omega
      gi_wp2
      go_end0
      exact ⟨⟨_, rfl⟩, hJk⟩
end Go.Proofs.Ytmbjbckjfkijmaa
