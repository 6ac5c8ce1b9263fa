/- Put and Get of package bazaarref03: what each call returns, and that it leaves whatever lay as it lay. -/
import Derived.Test.YtdaoiimjflplhaaPageM
import Derived.Test.YtdaoiimjflplhaaConv
import Derived.Test.YtdaoiimjflplhaaRow
import Derived.Test.YtdaoiimjflplhaaProg
namespace Go.Proofs.Ytdaoiimjflplhaa
open Go.RowKit Go.Shelf
set_option linter.unusedVariables false
theorem info_u8 : (Try.prog.info? 5).map (fun i => (i.zero, i.size, i.bytes)) = some (some (.int .u8 0), 1, 1) := by kernel_rfl

theorem be_int (n k : Nat) : (n : Int) / 2 ^ (8 * k) % 256 = (((UInt8.ofNat (n / 256 ^ k % 256)).toNat : Nat) : Int) := by
  have h : (2 : Int) ^ (8 * k) = ((256 ^ k : Nat) : Int) := by
    rw [Int.pow_mul]
    simp
  rw [be_byte, h]
  omega
theorem add_zero_at (g j : Nat) : (⟨g, 0, none⟩ : Addr).add j = ⟨g, j, none⟩ := by
  unfold Addr.add
  by_cases h0 : j = 0
  · rw [if_pos h0, h0]
  · rw [if_neg h0]
    simp
/-- A row of bytes that the call made, read whole. -/
theorem own_bytes {w : World} {base g cap : Nat} {l : List UInt8} (h : w.ownsRow base 5 1 (.slice (some ⟨g, 0, none⟩) l.length cap) l.length (u8s l)) : ∀ j (hj : j < l.length), w.cell? ⟨g, j, none⟩ = some (.int .u8 (l[j].toNat : Int)) := fun j hj => by
  have h1 := h.cells rfl j (.int .u8 (l[j].toNat : Int)) (by rw [u8s_get, List.getElem?_eq_getElem hj]; rfl)
  rwa [add_zero_at] at h1
theorem u8s_snoc (l : List UInt8) (c : UInt8) : u8s (l ++ [c]) = u8s l ++ [.int .u8 (c.toNat : Int)] := by simp [u8s]
theorem be_step (n k : Nat) (l : List UInt8) : l ++ be (k + 1) n = (l ++ [UInt8.ofNat (n / 256 ^ k % 256)]) ++ be k n := by simp [be]

set_option maxRecDepth 100000 in
set_option maxHeartbeats 1000000 in
theorem rput_any (n k0 : Nat) (w : World) (hn : n < 18446744073709551616) (h1 : 1 ≤ k0) (h8 : k0 ≤ 8) :
    Calls Try.prog 31 #[.int .u64 n, .int .i64 k0] w fun e w' => e = .returned (.string (mk (be k0 n))) ∧ Below w.heap.size w w' := by
  obtain ⟨j0, hi0, hz0, hz1, hz2⟩ := info_parts info_u8
  have HI := Lib.hid (And.intro hz1 hz2)
  clear hz1 hz2
  go_enter Try.func31, Try.ntmps31
  go_wp2
  go_loopw [5, 6] (fun v i wr => ∃ (k : Nat) (l : List UInt8), k ≤ k0 ∧ i = .int .i64 ((k : Int) - 1) ∧ l.length + k = k0 ∧ l ++ be k n = be k0 n ∧ wr.ownsRow w.heap.size 5 1 v l.length (u8s l) ∧ Below w.heap.size w wr) (fun _ i _ => (intOf i + 1).toNat)
  case atStart => exact ⟨k0, [], by omega, rfl, by simp, rfl, World.ownsRow_nil _ _ _ _, Below.refl _ _⟩
  case round =>
    obtain ⟨k, l, hk, rfl, hlen, hrest⟩ := hrel
    have HR := Lib.hid hrest
    clear hrest
    by_cases hlt : 0 < k
    · obtain ⟨k, rfl⟩ : ∃ m, k = m + 1 := ⟨k - 1, by omega⟩
      go_wp2_with (at_builtin
                   refine wpList_append_own _ rfl (.tmp 13) (.tmp 20) 59 rfl w.heap.size 5 j0 (.int .u8 0) 1 1 Try.underlying59 hi0 hz0 HI.out.1 HI.out.2 rfl (by omega) _ l.length (u8s l) rfl (HR.out.2.1.alloc _) ⟨_, 0, none⟩ 1 1 [.int .u8 ((n : Int) / 2 ^ (8 * k) % 256)] rfl rfl
                     (World.news_of_block (cs := #[.int .u8 ((n : Int) / 2 ^ (8 * k) % 256)]) (t := 5) (fr := (0, 0)) (heap_alloc_new _ _)) (by simp [Value.oneCell']) (by unfold maxLen; omega) (by omega) (by have := HR.out.2.2.size; simp; omega) ?_
                   intro v' w7 hown hgrow _
                   have KB := Lib.hid (And.intro hown hgrow)
                   clear hown hgrow)
      obtain ⟨hown, hgrow⟩ := KB.out
      have hsz := hgrow.size
      rw [be_int, ← u8s_snoc] at hown
      refine ⟨⟨k, l ++ [UInt8.ofNat (n / 256 ^ k % 256)], by omega, by go_num, by rw [List.length_append, List.length_singleton]; omega, by rw [← be_step]; exact HR.out.1, by rw [List.length_append]; exact hown, ?_⟩, by simp [intOf]⟩
      refine ((HR.out.2.2.alloc HR.out.2.2.size _)).grown hgrow (by have := HR.out.2.2.size; simp; omega) (fun b hb => ?_)
      exact (HR.out.2.1.lt b hb).1
    · obtain rfl : k = 0 := by omega
      have hl0 : 0 < l.length := by omega
      have hle : l = be k0 n := by simpa [be] using HR.out.1
      obtain ⟨gg, cp, rfl, _, hgl⟩ := HR.out.2.1.form hl0
      have hcv := conv_back (P := Try.prog) wr 59 9 5 gg cp l.length l Try.underlying59 Try.underlying5 Try.underlying9 rfl (own_bytes HR.out.2.1)
      have HL := Lib.hid hle
      clear hle
      go_wp2
      go_ret
      exact ⟨by rw [HL.out]; rfl, HR.out.2.2⟩

theorem num_lt7 (l : List UInt8) (h : l.length ≤ 7) : Sm.num l < 72057594037927936 := Nat.lt_of_lt_of_le (Sm.num_lt l) (Nat.le_trans (Nat.pow_le_pow_right (by omega) h) (by decide))
theorem num_lt8 (l : List UInt8) (h : l.length ≤ 8) : Sm.num l < 18446744073709551616 := Nat.lt_of_lt_of_le (Sm.num_lt l) (Nat.le_trans (Nat.pow_le_pow_right (by omega) h) (by decide))
theorem get_step (x c : Nat) (hx : x < 72057594037927936) (hc : c < 256) : bits .or .u64 (IntKind.u64.wrap ((x : Int) * 256)) (IntKind.u64.wrap (c : Int)) = ((x * 256 + c : Nat) : Int) := by
  rw [IntWalk.u64_in _ (by omega), IntWalk.u64_in _ (by omega), show ((x : Int) * 256) = ((x * 256 : Nat) : Int) by omega, u64_or_nat (x * 256) c (by omega) (by omega), nat_join 8 (x * 256) c (by omega) (by omega)]
set_option maxRecDepth 100000 in
set_option maxHeartbeats 1000000 in
theorem rget_any (s : ByteArray) (w : World) (hs : s.size ≤ 8) :
    Calls Try.prog 34 #[.string s] w fun e w' => e = .returned (.int .u64 (Sm.num s.data.toList : Nat)) ∧ w = w' := by
  go_enter Try.func34, Try.ntmps34
  go_wp2
  go_loop [3, 4] (fun v i => ∃ k : Nat, k ≤ s.size ∧ i = .int .i64 k ∧ v = .int .u64 (Sm.num (s.data.toList.take k) : Nat)) (fun _ i => s.size - (intOf i).toNat)
  case atStart => exact ⟨0, by omega, rfl, rfl⟩
  case round =>
    obtain ⟨k, hk, rfl, rfl⟩ := hrel
    by_cases hlt : k < s.size
    · go_wp2
      have hlen : (s.data.toList.take k).length = k := by rw [List.length_take, ba_length]; omega
      refine ⟨⟨k + 1, by omega, by go_num, ?_⟩, by simp [intOf]; omega⟩
      rw [get_step _ _ (num_lt7 _ (by omega)) (UInt8.toNat_lt _), Sm.take_snoc s k hlt, Sm.num_snoc]
    · obtain rfl : k = s.size := by omega
      go_wp2
      go_ret
      exact ⟨ret_int (by rw [List.take_of_length_le (by rw [ba_length]; exact Nat.le_refl _)]), rfl⟩
end Go.Proofs.Ytdaoiimjflplhaa
